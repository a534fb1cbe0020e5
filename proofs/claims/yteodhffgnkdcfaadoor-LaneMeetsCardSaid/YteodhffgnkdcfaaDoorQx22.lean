import Derived.Test.YteodhffgnkdcfaaDoorQx0
import Derived.Test.YteodhffgnkdcfaaDoorQx4
import Derived.Test.YteodhffgnkdcfaaDoorQx5
import Derived.Test.YteodhffgnkdcfaaDoorQx21
namespace Go.Proofs.YteodhffgnkdcfaaDoor.Q
open Go.RowKit Go.Proofs.YteodhffgnkdcfaaDoorW.PrintWords Go.Proofs.YteodhffgnkdcfaaDoorW.PrintLast Go.Proofs.YteodhffgnkdcfaaDoorW.PrintMore
attribute [local go_sem] max2_int min2_int max_two min_two max_three min_three max_four min_four
set_option linter.unusedVariables false
set_option linter.unusedSimpArgs false
def foldV (g : Int → S29 → Int) (l : List S29) : Int := l.foldl g 0
theorem foldV_take (g : Int → S29 → Int) (l : List S29) (k : Nat) (hk : k < l.length) : foldV g (l.take (k + 1)) = g (foldV g (l.take k)) (l.getD k z29) := by
  unfold foldV
  rw [List.take_succ_eq_append_getElem hk, List.foldl_append, List.getD_eq_getElem?_getD, List.getElem?_eq_getElem hk, Option.getD_some]
  rfl
set_option maxHeartbeats 4000000 in
theorem fold_calls (g : Int → S29 → Int) (f : FuncId) (caps : Array Value) (A0 : Option Addr) (c0 : Nat) (l0 : List S29) (w : World) (hr : Kd.C k29 w A0 l0.length l0)
    (he : ∀ args W, (callFunc f args).run Tryd.prog W = .ok (.enter f args) W)
    (hf : ∀ s ∈ l0, ∀ (n : Int) (W : World), Below w.heap.size w W → Calls Tryd.prog f (#[.int .i64 n, .agg #[.int .i64 s.f0, .int .i64 s.f1, .int .i64 s.f2, .int .i64 s.f3, .int .i64 s.f4]] ++ caps) W fun e w' => e = .returned (.int .i64 (g n s)) ∧ Below W.heap.size W w') :
    Calls Tryd.prog 32 #[.slice A0 l0.length c0, .func (.func f) #[] caps] w fun e w' => e = .returned (.int .i64 (foldV g l0)) ∧ Below w.heap.size w w' := by
  have hl := e_kd_len hr
  have HR := Aside0.mk hr
  have HF := fun s hs n W h => Lib.hid (hf s hs n W h)
  clear hr hf
  go_enter Tryd.func32, Tryd.ntmps32
  go_wp2
  go_loopw [5, 10] (fun v i w' => ∃ k : Nat, k ≤ l0.length ∧ i = .int .i64 k ∧ v = .int .i64 (foldV g (l0.take k)) ∧ Aside0 (Below w.heap.size w w')) (fun _ i _ => l0.length - (intOf i).toNat)
  case atStart => exact ⟨0, Nat.zero_le _, rfl, rfl, ⟨Below.refl _ _⟩⟩
  case round =>
    obtain ⟨k, hk, rfl, rfl, HB⟩ := hrel
    by_cases hlt : k < l0.length
    · obtain ⟨ad, hA, x0, x1, x2, x3, x4⟩ := at_T29 (Kd.C_below HR.out HB.out) (k : Int) (by omega) (by omega)
      cases hA
      have hxe : rd_T29 l0 (k : Int) = l0.getD k z29 := by unfold rd_T29; rw [Int.toNat_natCast]
      rw [hxe] at x0 x1 x2 x3 x4
      rw [Int.toNat_natCast] at x0 x1 x2 x3 x4
      have hs := foldV_take g l0 k hlt
      obtain ⟨x, hx⟩ : ∃ x, l0.getD k z29 = x := ⟨_, rfl⟩
      rw [hx] at x0 x1 x2 x3 x4 hs
      have hmem : x ∈ l0 := by
        rw [← hx, List.getD_eq_getElem?_getD, List.getElem?_eq_getElem hlt, Option.getD_some]
        exact List.getElem_mem hlt
      have C := HF x hmem
      clear hxe hmem hx
      obtain ⟨n, hn⟩ : ∃ n, foldV g (l0.take k) = n := ⟨_, rfl⟩
      rw [hn] at hs ⊢
      clear hn
      have S := Lib.hid hs
      clear hs
      obtain ⟨y0, y1, y2, y3, y4⟩ := x
      go_wp2_with ((with_reducible refine (C n _ (below_alloc HB.out _)).out.mono ?_); rintro e w' ⟨rfl, hb2⟩)
      go_roundw
      case rel => exact ⟨k + 1, by omega, by go_num, by rw [S.out], ⟨below_step (below_alloc HB.out _) hb2⟩⟩
      case measure => simp [intOf]; omega
    · have e : l0.take k = l0 := List.take_of_length_le (by omega)
      obtain ⟨r, hr⟩ : ∃ r, foldV g (l0.take k) = r := ⟨_, rfl⟩
      rw [hr]
      have R := Lib.hid (show r = foldV g l0 by rw [← hr, e])
      clear e hr
      go_wp2
      go_ret
      exact ⟨e_ret_int_ R.out, HB.out⟩
/-! ### edf_Horizon: function 15 -/
def hor1 (n : Int) (s : S29) : Int := mx n s.f4
theorem enters_hor : ∀ args W, (callFunc 33 args).run Tryd.prog W = .ok (.enter 33 args) W := enters_ Tryd.func33 (by kernel_rfl) rfl
def edf_Horizon.f (l0 : List S29) : Option Int := (edf_Check.f l0).bind fun c => if c = 0 then some (foldV hor1 l0) else some 0
set_option maxHeartbeats 2000000 in
theorem edf_Horizon.calls (A0 : Option Addr) (c0 : Nat) (l0 : List (S29)) (r : Int) (w : World) (hr0 : Kd.C k29 w A0 l0.length l0) (hc0 : l0.length ≤ c0) (h : edf_Horizon.f l0 = some r) (hTab : TabOK w := by first | exact hTab | exact TabOK.below hTab HB.out | exact TabOK.drewN hTab _ | exact TabOK.below hTab (by repeat (first | (with_reducible first | exact HB.out | apply below_alloc | apply pw_below_drewN | apply below_drew1 | refine below_set ?_ (Aside0.out (by assumption))) | exact HB.out)) | (repeat (first | exact hTab | apply TabOK.drewN | apply TabOK.drew | apply TabOK.alloc); done)) :
    Calls Tryd.prog 15 #[.slice A0 l0.length c0] w fun e w' => e = .returned (.int .i64 r) ∧ Below w.heap.size w w' := by
  unfold edf_Horizon.f at h
  obtain ⟨c, hc, h⟩ := Option.bind_eq_some_iff.mp h
  have C1 := Lib.hid (edf_Check.calls A0 c0 l0 c w hr0 hc0 hc hTab)
  have C2 := fun W hW => Lib.hid (fold_calls hor1 33 #[] A0 c0 l0 W (Kd.C_below hr0 hW) enters_hor (fun s _ n W' _ => edf_Horizon_1.calls n s.f0 s.f1 s.f2 s.f3 s.f4 (hor1 n s) W' rfl))
  clear hr0 hc0 hc
  by_cases h0 : c = 0
  · rw [if_pos h0] at h
    have H := Lib.hid (Option.some.inj h)
    have h0b : (c != 0) = false := by simp [h0]
    clear h0 h
    generalize foldV hor1 l0 = v at *
    go_enter Tryd.func15, Tryd.ntmps15
    go_wp2_with (first | (go_at_call 14; refine C1.out.mono ?_; rintro e w1 ⟨rfl, hb⟩) | (go_at_call 32; refine (C2 _ hb).out.mono ?_; rintro e w2 ⟨rfl, hb2⟩))
    go_ret
    exact ⟨e_ret_int_ H.out, below_step hb hb2⟩
  · rw [if_neg h0] at h
    have H := Lib.hid (Option.some.inj h)
    have h0b : (c != 0) = true := by simp [h0]
    clear h0 h
    go_enter Tryd.func15, Tryd.ntmps15
    go_wp2_with (first | (go_at_call 14; refine C1.out.mono ?_; rintro e w1 ⟨rfl, hb⟩))
    go_ret
    exact ⟨e_ret_int_ H.out, hb⟩
def dem1 (t n : Int) (s : S29) : Int := if t < s.f3 then n else wrap64 (n + wrap64 (s.f0 * wrap64 (wrap64 (Int.tdiv (wrap64 (t - s.f3)) s.f4) + 1)))
set_option maxHeartbeats 2000000 in
theorem dem1_calls (g : Nat) (t n a b c d e : Int) (w : World) (hc : w.cell? ⟨g, 0, none⟩ = some (.int .i64 t)) (hg : g < w.heap.size) (he : t < d ∨ e ≠ 0) :
    Calls Tryd.prog 34 #[.int .i64 n, .agg #[.int .i64 a, .int .i64 b, .int .i64 c, .int .i64 d, .int .i64 e], .pointer (some ⟨g, 0, none⟩)] w fun en w' => en = .returned (.int .i64 (dem1 t n ⟨a, b, c, d, e⟩)) ∧ Below w.heap.size w w' := by
  have hne : g ≠ w.heap.size := by omega
  by_cases h : t < d
  · have hd : dem1 t n ⟨a, b, c, d, e⟩ = n := by unfold dem1; rw [if_pos h]
    rw [hd]
    have hb : decide (t < d) = true := decide_eq_true h
    clear hd he h
    go_enter Tryd.func34, Tryd.ntmps34
    go_wp2
    go_ret
    exact ⟨rfl, by repeat (first | exact Below.refl _ _ | apply below_alloc | apply pw_below_drewN | apply below_drew1)⟩
  · have hd : dem1 t n ⟨a, b, c, d, e⟩ = wrap64 (n + wrap64 (a * wrap64 (wrap64 (Int.tdiv (wrap64 (t - d)) e) + 1))) := by unfold dem1; rw [if_neg h]
    rw [hd]
    have hb : decide (t < d) = false := decide_eq_false h
    have he0 : ¬ e = 0 := by rcases he with he | he; exact absurd he h; exact he
    have he1 : (e == 0) = false := by simp [he0]
    clear hd he h
    go_enter Tryd.func34, Tryd.ntmps34
    go_wp2
    go_quiet (fail)
    go_wp2
    go_ret
    exact ⟨by first | rfl | (simp; done) | (simp [*]; done), by repeat (first | exact Below.refl _ _ | apply below_alloc | apply pw_below_drewN | apply below_drew1)⟩
theorem enters_dem : ∀ args W, (callFunc 34 args).run Tryd.prog W = .ok (.enter 34 args) W := enters_ Tryd.func34 (by kernel_rfl) rfl
/-! ### edf_demand: function 16 -/
def edf_demand.f (l0 : List S29) (a1 : Int) : Option Int := if ∀ s ∈ l0, s.f4 ≠ 0 then some (foldV (dem1 a1) l0) else none
theorem e_box1_at {w W : World} {t : TypeId} {x : Value} (hb : Below (w.alloc (.cells #[x] t)).heap.size (w.alloc (.cells #[x] t)) W) : W.cell? ⟨w.heap.size, 0, none⟩ = some x := pw_cell_below hb ((blk_cell (blk_new w _) 0).trans rfl)
theorem e_box1_lt {w W : World} {t : TypeId} {x : Value} (hb : Below (w.alloc (.cells #[x] t)).heap.size (w.alloc (.cells #[x] t)) W) : w.heap.size < W.heap.size := by
  have := hb.size
  simp at this
  omega
set_option maxHeartbeats 2000000 in
theorem edf_demand.calls (A0 : Option Addr) (c0 : Nat) (l0 : List (S29)) (a1 : Int) (r : Int) (w : World) (hr0 : Kd.C k29 w A0 l0.length l0) (hc0 : l0.length ≤ c0) (h : edf_demand.f l0 a1 = some r) :
    Calls Tryd.prog 16 #[.slice A0 l0.length c0, .int .i64 a1] w fun e w' => e = .returned (.int .i64 r) ∧ Below w.heap.size w w' := by
  unfold edf_demand.f at h
  by_cases hz : ∀ s ∈ l0, s.f4 ≠ 0
  · rw [if_pos hz] at h
    have C := Lib.hid (fold_calls (dem1 a1) 34 #[.pointer (some ⟨w.heap.size, 0, none⟩)] A0 c0 l0 (w.alloc (.cells #[.int .i64 a1] 3)) (Kd.C_alloc hr0 _) enters_dem
      (fun s hs n W hb => dem1_calls w.heap.size a1 n s.f0 s.f1 s.f2 s.f3 s.f4 W (e_box1_at hb) (e_box1_lt hb) (.inr (hz s hs))))
    have H := Lib.hid (Option.some.inj h)
    clear hz h hr0 hc0
    generalize foldV (dem1 a1) l0 = v at *
    go_enter Tryd.func16, Tryd.ntmps16
    go_wp2_with (go_at_call 32; refine C.out.mono ?_; rintro e w' ⟨rfl, hb⟩)
    go_ret
    exact ⟨e_ret_int_ H.out, below_step (below_alloc (Below.refl _ _) _) hb⟩
  · rw [if_neg hz] at h; cases h
def blk1 (t n : Int) (s : S29) : Int := if t < s.f3 then mx n s.f2 else n
set_option maxHeartbeats 2000000 in
theorem blk1_calls (g : Nat) (t n a b c d e : Int) (w : World) (hc : w.cell? ⟨g, 0, none⟩ = some (.int .i64 t)) (hg : g < w.heap.size) :
    Calls Tryd.prog 35 #[.int .i64 n, .agg #[.int .i64 a, .int .i64 b, .int .i64 c, .int .i64 d, .int .i64 e], .pointer (some ⟨g, 0, none⟩)] w fun en w' => en = .returned (.int .i64 (blk1 t n ⟨a, b, c, d, e⟩)) ∧ Below w.heap.size w w' := by
  have hne : g ≠ w.heap.size := by omega
  by_cases h : t < d
  · have hd : blk1 t n ⟨a, b, c, d, e⟩ = mx n c := by unfold blk1; rw [if_pos h]
    rw [hd]
    have hb : decide (t < d) = true := decide_eq_true h
    clear hd h
    go_enter Tryd.func35, Tryd.ntmps35
    go_wp2
    all_goals go_ret
    all_goals exact ⟨e_ret_int_ (by unfold mx; split <;> omega), by repeat (first | exact Below.refl _ _ | apply below_alloc | apply pw_below_drewN | apply below_drew1)⟩
  · have hd : blk1 t n ⟨a, b, c, d, e⟩ = n := by unfold blk1; rw [if_neg h]
    rw [hd]
    have hb : decide (t < d) = false := decide_eq_false h
    clear hd h
    go_enter Tryd.func35, Tryd.ntmps35
    go_wp2
    go_ret
    exact ⟨rfl, by repeat (first | exact Below.refl _ _ | apply below_alloc | apply pw_below_drewN | apply below_drew1)⟩
theorem enters_blk : ∀ args W, (callFunc 35 args).run Tryd.prog W = .ok (.enter 35 args) W := enters_ Tryd.func35 (by kernel_rfl) rfl
/-! ### edf_block: function 17 -/
def edf_block.f (l0 : List S29) (a1 : Int) : Option Int := some (foldV (blk1 a1) l0)
set_option maxHeartbeats 2000000 in
theorem edf_block.calls (A0 : Option Addr) (c0 : Nat) (l0 : List (S29)) (a1 : Int) (r : Int) (w : World) (hr0 : Kd.C k29 w A0 l0.length l0) (hc0 : l0.length ≤ c0) (h : edf_block.f l0 a1 = some r) :
    Calls Tryd.prog 17 #[.slice A0 l0.length c0, .int .i64 a1] w fun e w' => e = .returned (.int .i64 r) ∧ Below w.heap.size w w' := by
  have C := Lib.hid (fold_calls (blk1 a1) 35 #[.pointer (some ⟨w.heap.size, 0, none⟩)] A0 c0 l0 (w.alloc (.cells #[.int .i64 a1] 3)) (Kd.C_alloc hr0 _) enters_blk
    (fun s _ n W hb => blk1_calls w.heap.size a1 n s.f0 s.f1 s.f2 s.f3 s.f4 W (e_box1_at hb) (e_box1_lt hb)))
  have H := Lib.hid (Option.some.inj h)
  clear h hr0 hc0
  generalize foldV (blk1 a1) l0 = v at *
  go_enter Tryd.func17, Tryd.ntmps17
  go_wp2_with (go_at_call 32; refine C.out.mono ?_; rintro e w' ⟨rfl, hb⟩)
  go_ret
  exact ⟨e_ret_int_ H.out, below_step (below_alloc (Below.refl _ _) _) hb⟩
/-! ### edf_Fits: function 6 -/
mutual
def edf_Fits.l0 : Nat → List (S29) → List (S29) → Int → Int → Option (Bool)
  | 0, _, _, _, _ => none
  | k + 1, x0, x9, x10, x11 => if x11 < x10 then (if 0 ≤ x11 then (if x11 < (x9.length : Int) then (edf_Fits.l1 k x0 ((rd_T29 x9 x11).f3) x9 x10 x11 ((rd_T29 x9 x11).f0) ((rd_T29 x9 x11).f1) ((rd_T29 x9 x11).f2) ((rd_T29 x9 x11).f3) ((rd_T29 x9 x11).f4)) else (none)) else (none)) else (some true)
def edf_Fits.l1 : Nat → List (S29) → Int → List (S29) → Int → Int → Int → Int → Int → Int → Int → Option (Bool)
  | 0, _, _, _, _, _, _, _, _, _, _ => none
  | k + 1, x0, x5, x9, x10, x11, x223000, x223001, x223002, x223003, x223004 => (edf_Horizon.f x0).bind fun t223 => (if x5 ≤ t223 then ((edf_demand.f x0 x5).bind fun t224 => ((edf_block.f x0 x5).bind fun t225 => (if (wrap64 (t224 + t225)) > x5 then (some false) else (edf_Fits.l1 k x0 (wrap64 (x5 + x223004)) x9 x10 x11 x223000 x223001 x223002 x223003 x223004)))) else (edf_Fits.l0 k x0 x9 x10 (wrap64 (x11 + 1))))
end
def edf_Fits.f (k : Nat) (l0 : List (S29)) : Option (Bool) := (edf_Check.f l0).bind fun t220 => (if t220 = 0 then (edf_Fits.l0 k l0 l0 (l0.length : Int) 0) else (some false))
theorem edf_Fits.mono_l : ∀ k, (∀ y0 y1 y2 y3, LeO (edf_Fits.l0 k y0 y1 y2 y3) (edf_Fits.l0 (k + 1) y0 y1 y2 y3)) ∧ (∀ y0 y1 y2 y3 y4 y5 y6 y7 y8 y9, LeO (edf_Fits.l1 k y0 y1 y2 y3 y4 y5 y6 y7 y8 y9) (edf_Fits.l1 (k + 1) y0 y1 y2 y3 y4 y5 y6 y7 y8 y9))
  | 0 => ⟨fun _ _ _ _ r h => by simp [edf_Fits.l0] at h, fun _ _ _ _ _ _ _ _ _ _ r h => by simp [edf_Fits.l1] at h⟩
  | k + 1 => by
    obtain ⟨ih0, ih1⟩ := edf_Fits.mono_l k
    refine ⟨?_, ?_⟩
    · intro y0 y1 y2 y3
      unfold edf_Fits.l0
      repeat' first
      | (with_reducible exact ih0 _ _ _ _)
      | (with_reducible exact ih1 _ _ _ _ _ _ _ _ _ _)
      | (with_reducible exact LeO.refl _)
      | (with_reducible exact LeO.none _)
      | (with_reducible refine LeO.ite ?_ ?_)
      | (with_reducible refine LeO.bind ?_ (fun _ => ?_))
      | exact ih0 _ _ _ _
      | exact ih1 _ _ _ _ _ _ _ _ _ _
      | exact LeO.none _
      | refine LeO.ite ?_ ?_
      | refine LeO.bind ?_ (fun _ => ?_)
    · intro y0 y1 y2 y3 y4 y5 y6 y7 y8 y9
      unfold edf_Fits.l1
      repeat' first
      | (with_reducible exact ih0 _ _ _ _)
      | (with_reducible exact ih1 _ _ _ _ _ _ _ _ _ _)
      | (with_reducible exact LeO.refl _)
      | (with_reducible exact LeO.none _)
      | (with_reducible refine LeO.ite ?_ ?_)
      | (with_reducible refine LeO.bind ?_ (fun _ => ?_))
      | exact ih0 _ _ _ _
      | exact ih1 _ _ _ _ _ _ _ _ _ _
      | exact LeO.none _
      | refine LeO.ite ?_ ?_
      | refine LeO.bind ?_ (fun _ => ?_)
theorem edf_Fits.mono : ∀ a0 k, LeO (edf_Fits.f k a0) (edf_Fits.f (k + 1) a0) := by
  intro a0 k
  obtain ⟨ih0, ih1⟩ := edf_Fits.mono_l k
  unfold edf_Fits.f
  repeat' first
      | (with_reducible exact ih0 _ _ _ _)
      | (with_reducible exact ih1 _ _ _ _ _ _ _ _ _ _)
      | (with_reducible exact LeO.refl _)
      | (with_reducible exact LeO.none _)
      | (with_reducible refine LeO.ite ?_ ?_)
      | (with_reducible refine LeO.bind ?_ (fun _ => ?_))
      | exact ih0 _ _ _ _
      | exact ih1 _ _ _ _ _ _ _ _ _ _
      | exact LeO.none _
      | refine LeO.ite ?_ ?_
      | refine LeO.bind ?_ (fun _ => ?_)
set_option maxHeartbeats 8000000 in
set_option maxRecDepth 100000 in
theorem edf_Fits.calls (k : Nat) (A0 : Option Addr) (c0 : Nat) (l0 : List (S29)) (r : Bool) (w : World) (hr0 : Kd.C k29 w A0 l0.length l0) (hc0 : l0.length ≤ c0) (h : edf_Fits.f k l0 = some r) (hTab : TabOK w := by first | exact hTab | exact TabOK.below hTab HB.out | exact TabOK.drewN hTab _ | exact TabOK.below hTab (by repeat (first | (with_reducible first | exact HB.out | apply below_alloc | apply pw_below_drewN | apply below_drew1 | refine below_set ?_ (Aside0.out (by assumption))) | exact HB.out)) | (repeat (first | exact hTab | apply TabOK.drewN | apply TabOK.drew | apply TabOK.alloc); done)) :
    Calls Tryd.prog 6 #[.slice A0 l0.length c0] w fun e w' => e = .returned (.bool r) ∧ Below w.heap.size w w' := by
  have hu29 := Tryd.underlying29
  have HR0 := Aside0.mk hr0
  have HC0 := Aside0.mk hc0
  clear hr0 hc0
  have HB := Aside0.mk (Below.refl w.heap.size w)
  have H : ((edf_Check.f l0).bind fun t220 => (if t220 = 0 then (edf_Fits.l0 k l0 l0 (l0.length : Int) 0) else (some false))) = some r := h
  clear h
  replace H := Option.bind_eq_some_iff.mp H
  obtain ⟨t220, A20, H⟩ := H
  replace H : (if t220 = 0 then (edf_Fits.l0 k l0 l0 (l0.length : Int) 0) else (some false)) = some r := H
  have A2 := Aside0.mk A20
  clear A20
  by_cases c3 : t220 = 0
  · rw [if_pos c3] at H
    have c3b0 : (t220 == 0) = true := beq_iff_eq.mpr c3
    have c3b1 : (t220 != 0) = false := bne_eq_false_iff_eq.mpr c3
    clear c3
    have H' := Aside0.mk H
    clear H
    go_enter Tryd.func6, Tryd.ntmps6
    go_wp2_with (first | ((with_reducible refine gate_callee (f := 14) rfl ?_); refine goesL_ (some 7) rfl rfl Tryd.func14 (by kernel_rfl) rfl #[.slice A0 l0.length c0] rfl (by (try simp only [List.map_toArray, List.map_cons, List.map_nil]); first | done | rfl | (simp only [List.length_drop, List.length_take]; rfl)) ?_; (with_reducible refine (edf_Check.calls _ _ l0 t220 _ ?side1 ?side2 A2.out).mono ?_); (case side1 => repeat (first | exact HR0.out | (with_reducible refine Kd.C_alloc ?_ _) | (with_reducible refine Kd.C_drewN ?_ _) | (with_reducible refine Kd.C_drew ?_))); (case side2 => exact HC0.out); rintro e w4 ⟨rfl, hb⟩; refine ⟨_, rfl, ?_⟩; have n0_ := Aside0.mk (below_step (by repeat (first | (with_reducible first | exact HB.out | apply below_alloc | apply pw_below_drewN | apply below_drew1) | exact HB.out)) hb); clear HB; have HB := n0_; clear n0_; (try clear hb); (try clear hb2); (try clear hk); (try clear hi)))
    go_loopg [11] k (fun kq v11 w' => ∃ (x11_1 : Int), v11 = .int .i64 x11_1 ∧ Aside0 (edf_Fits.l0 kq l0 l0 (l0.length : Int) x11_1 = some r) ∧ Aside0 (kq ≤ k) ∧ Aside0 (Below w.heap.size w w'))
    case atStart => exact ⟨(0), (by first | rfl | (simp; done) | (simp [*]; done)), H', ⟨Nat.le_refl _⟩, ⟨by repeat (first | (with_reducible first | exact HB.out | apply below_alloc | apply pw_below_drewN | apply below_drew1) | exact HB.out)⟩⟩
    case round =>
      clear H'
      try clear c1
      try clear p2
      try clear c3
      try clear c3b0
      try clear c3b1
      obtain ⟨x11_1, rfl, HA, HK1, HB⟩ := hrel
      cases gk with
      | zero => exact absurd HA.out (by simp [edf_Fits.l0])
      | succ k1 =>
        have H := HA.out
        clear HA
        simp only [edf_Fits.l0] at H
        by_cases c5 : x11_1 < (l0.length : Int)
        · rw [if_pos c5] at H
          have c5b0 : decide (x11_1 < (l0.length : Int)) = true := decide_eq_true c5
          clear c5
          by_cases c6 : 0 ≤ x11_1
          · rw [if_pos c6] at H
            have c6b0 : decide (0 ≤ x11_1) = true := decide_eq_true c6
            clear c6
            by_cases c7 : x11_1 < (l0.length : Int)
            · rw [if_pos c7] at H
              have c7b0 : decide (x11_1 < (l0.length : Int)) = true := decide_eq_true c7
              clear c7
              have H' := Aside0.mk H
              clear H
              have p221 : 0 ≤ (x11_1 : Int) := of_decide_eq_true (by first | (with_reducible assumption) | assumption)
              have q221 : x11_1 < (l0.length : Int) := of_decide_eq_true (by first | (with_reducible assumption) | assumption)
              obtain ⟨ad221, e221, hx221_0, hx221_1, hx221_2, hx221_3, hx221_4⟩ := at_T29 HR0.out x11_1 p221 q221
              cases e221
              replace hx221_0 := (HB.out.cell (World.block_lt_of_cell? w _ hx221_0)).trans hx221_0
              replace hx221_1 := (HB.out.cell (World.block_lt_of_cell? w _ hx221_1)).trans hx221_1
              replace hx221_2 := (HB.out.cell (World.block_lt_of_cell? w _ hx221_2)).trans hx221_2
              replace hx221_3 := (HB.out.cell (World.block_lt_of_cell? w _ hx221_3)).trans hx221_3
              replace hx221_4 := (HB.out.cell (World.block_lt_of_cell? w _ hx221_4)).trans hx221_4
              replace p221 := eq_true p221
              replace q221 := eq_true q221
              go_wp2_with (first | ((with_reducible refine gate_dst (N := 4) rfl ?_); refine box_event ?hg (N := 4) ?hd (cs := #[.int .i64 0, .int .i64 0, .int .i64 0, .int .i64 0, .int .i64 0]) (t := 29) ?hr ?_; (case hd => rfl); (case hg => rfl); (case hr => first | (go_simp; done) | (go_simp; rfl)); intro gb222 hg w8 hbox hb; have n0_ := Aside0.mk (below_step (by repeat (first | (with_reducible first | exact HB.out | apply below_alloc | apply pw_below_drewN | apply below_drew1) | exact HB.out)) hb); have n1_ := Aside0.mk (hbox); have n2_ := Aside0.mk ((by rw [hg]; exact (below_size (by repeat (first | (with_reducible first | exact HB.out | apply below_alloc | apply pw_below_drewN | apply below_drew1) | exact HB.out))) : w.heap.size ≤ gb222)); have n3_ := Aside0.mk ((by rw [hg]; exact (below_size (by repeat (first | (with_reducible first | exact HB.out | apply below_alloc | apply pw_below_drewN | apply below_drew1) | exact HB.out))) : w.heap.size ≤ gb222)); clear HB; have HB := n0_; have BK222 := n1_; have GW222 := n2_; have GE222 := n3_; clear n0_ n1_ n2_ n3_; clear hb hbox hg; have hcz9_0 : w8.cell? ⟨gb222, 0, none⟩ = some (.int .i64 0) := (blk_cell BK222.out 0).trans rfl; have hcz9_1 : w8.cell? ⟨gb222, 1, none⟩ = some (.int .i64 0) := (blk_cell BK222.out 1).trans rfl; have hcz9_2 : w8.cell? ⟨gb222, 2, none⟩ = some (.int .i64 0) := (blk_cell BK222.out 2).trans rfl; have hcz9_3 : w8.cell? ⟨gb222, 3, none⟩ = some (.int .i64 0) := (blk_cell BK222.out 3).trans rfl; have hcz9_4 : w8.cell? ⟨gb222, 4, none⟩ = some (.int .i64 0) := (blk_cell BK222.out 4).trans rfl; have hfz9_0 := blk_frozen BK222.out 0; have hfz9_1 := blk_frozen BK222.out 1; have hfz9_2 := blk_frozen BK222.out 2; have hfz9_3 := blk_frozen BK222.out 3; have hfz9_4 := blk_frozen BK222.out 4))
              go_loopg [5] k1 (fun kq v5 w' => ∃ (x5_2 : Int), v5 = .int .i64 x5_2 ∧ Aside0 (edf_Fits.l1 kq l0 x5_2 l0 (l0.length : Int) x11_1 ((rd_T29 l0 x11_1).f0) ((rd_T29 l0 x11_1).f1) ((rd_T29 l0 x11_1).f2) ((rd_T29 l0 x11_1).f3) ((rd_T29 l0 x11_1).f4) = some r) ∧ Aside0 (kq ≤ k1) ∧ Aside0 (w'.heap[gb222]? = some (.cells #[.int .i64 ((rd_T29 l0 x11_1).f0), .int .i64 ((rd_T29 l0 x11_1).f1), .int .i64 ((rd_T29 l0 x11_1).f2), .int .i64 ((rd_T29 l0 x11_1).f3), .int .i64 ((rd_T29 l0 x11_1).f4)] 29 (0, 0))) ∧ Aside0 (Below w.heap.size w w'))
              case atStart => exact ⟨((rd_T29 l0 x11_1).f3), (by first | rfl | (simp; done) | (simp [*]; done)), H', ⟨Nat.le_refl _⟩, ⟨by (with_reducible repeat (first | refine blk_drewN ?_ _ | refine blk_drew ?_ | refine blk_alloc ?_ _)); refine blk_put (cs := #[.int .i64 ((rd_T29 l0 x11_1).f0), .int .i64 ((rd_T29 l0 x11_1).f1), .int .i64 ((rd_T29 l0 x11_1).f2), .int .i64 ((rd_T29 l0 x11_1).f3), .int .i64 0]) ?_ 4 _ rfl; (with_reducible repeat (first | refine blk_drewN ?_ _ | refine blk_drew ?_ | refine blk_alloc ?_ _)); refine blk_put (cs := #[.int .i64 ((rd_T29 l0 x11_1).f0), .int .i64 ((rd_T29 l0 x11_1).f1), .int .i64 ((rd_T29 l0 x11_1).f2), .int .i64 0, .int .i64 0]) ?_ 3 _ rfl; (with_reducible repeat (first | refine blk_drewN ?_ _ | refine blk_drew ?_ | refine blk_alloc ?_ _)); refine blk_put (cs := #[.int .i64 ((rd_T29 l0 x11_1).f0), .int .i64 ((rd_T29 l0 x11_1).f1), .int .i64 0, .int .i64 0, .int .i64 0]) ?_ 2 _ rfl; (with_reducible repeat (first | refine blk_drewN ?_ _ | refine blk_drew ?_ | refine blk_alloc ?_ _)); refine blk_put (cs := #[.int .i64 ((rd_T29 l0 x11_1).f0), .int .i64 0, .int .i64 0, .int .i64 0, .int .i64 0]) ?_ 1 _ rfl; (with_reducible repeat (first | refine blk_drewN ?_ _ | refine blk_drew ?_ | refine blk_alloc ?_ _)); refine blk_put (cs := #[.int .i64 0, .int .i64 0, .int .i64 0, .int .i64 0, .int .i64 0]) ?_ 0 _ rfl; (with_reducible repeat (first | refine blk_drewN ?_ _ | refine blk_drew ?_ | refine blk_alloc ?_ _)); exact BK222.out⟩, ⟨by repeat (first | (with_reducible first | exact HB.out | apply below_alloc | apply pw_below_drewN | apply below_drew1 | refine below_set ?_ GE222.out) | exact HB.out)⟩⟩
              case round =>
                clear H'
                try clear c1
                try clear p2
                try clear q2
                try clear hx2
                try clear c3
                try clear c3b0
                try clear c3b1
                try clear c5
                try clear c5b0
                try clear c6
                try clear c6b0
                try clear c7
                try clear c7b0
                try clear hcz9_0
                try clear hcz9_1
                try clear hcz9_2
                try clear hcz9_3
                try clear hcz9_4
                try clear hfz9_0
                try clear hfz9_1
                try clear hfz9_2
                try clear hfz9_3
                try clear hfz9_4
                try clear hx221_0
                try clear hx221_1
                try clear hx221_2
                try clear hx221_3
                try clear hx221_4
                try clear p2
                try clear p221
                try clear q221
                obtain ⟨x5_2, rfl, HA, HK2, BK222, HB⟩ := hrel
                cases gk with
                | zero => exact absurd HA.out (by simp [edf_Fits.l1])
                | succ k2 =>
                  have H := HA.out
                  clear HA
                  simp only [edf_Fits.l1] at H
                  replace H := Option.bind_eq_some_iff.mp H
                  obtain ⟨t223, A100, H⟩ := H
                  replace H : (if x5_2 ≤ t223 then ((edf_demand.f l0 x5_2).bind fun t224 => ((edf_block.f l0 x5_2).bind fun t225 => (if (wrap64 (t224 + t225)) > x5_2 then (some false) else (edf_Fits.l1 k2 l0 (wrap64 (x5_2 + ((rd_T29 l0 x11_1).f4))) l0 (l0.length : Int) x11_1 ((rd_T29 l0 x11_1).f0) ((rd_T29 l0 x11_1).f1) ((rd_T29 l0 x11_1).f2) ((rd_T29 l0 x11_1).f3) ((rd_T29 l0 x11_1).f4))))) else (edf_Fits.l0 k2 l0 l0 (l0.length : Int) (wrap64 (x11_1 + 1)))) = some r := H
                  have A10 := Aside0.mk A100
                  clear A100
                  by_cases c11 : x5_2 ≤ t223
                  · rw [if_pos c11] at H
                    have c11b0 : decide (x5_2 ≤ t223) = true := decide_eq_true c11
                    clear c11
                    replace H := Option.bind_eq_some_iff.mp H
                    obtain ⟨t224, A120, H⟩ := H
                    replace H : ((edf_block.f l0 x5_2).bind fun t225 => (if (wrap64 (t224 + t225)) > x5_2 then (some false) else (edf_Fits.l1 k2 l0 (wrap64 (x5_2 + ((rd_T29 l0 x11_1).f4))) l0 (l0.length : Int) x11_1 ((rd_T29 l0 x11_1).f0) ((rd_T29 l0 x11_1).f1) ((rd_T29 l0 x11_1).f2) ((rd_T29 l0 x11_1).f3) ((rd_T29 l0 x11_1).f4)))) = some r := H
                    have A12 := Aside0.mk A120
                    clear A120
                    replace H := Option.bind_eq_some_iff.mp H
                    obtain ⟨t225, A130, H⟩ := H
                    replace H : (if (wrap64 (t224 + t225)) > x5_2 then (some false) else (edf_Fits.l1 k2 l0 (wrap64 (x5_2 + ((rd_T29 l0 x11_1).f4))) l0 (l0.length : Int) x11_1 ((rd_T29 l0 x11_1).f0) ((rd_T29 l0 x11_1).f1) ((rd_T29 l0 x11_1).f2) ((rd_T29 l0 x11_1).f3) ((rd_T29 l0 x11_1).f4))) = some r := H
                    have A13 := Aside0.mk A130
                    clear A130
                    by_cases c14 : (wrap64 (t224 + t225)) > x5_2
                    · rw [if_pos c14] at H
                      have c14b0 : decide (x5_2 < (wrap64 (t224 + t225))) = true := decide_eq_true c14
                      clear c14
                      obtain rfl := Option.some.inj H
                      go_wp2_with (first | ((with_reducible refine gate_callee (f := 15) rfl ?_); refine goesL_ (some 19) rfl rfl Tryd.func15 (by kernel_rfl) rfl #[.slice (some ad221) l0.length c0] rfl (by (try simp only [List.map_toArray, List.map_cons, List.map_nil]); first | done | rfl | (simp only [List.length_drop, List.length_take]; rfl)) ?_; (with_reducible refine (edf_Horizon.calls _ _ l0 t223 _ ?side1 ?side2 A10.out).mono ?_); (case side1 => repeat (first | exact (Kd.C_below HR0.out HB.out) | (with_reducible refine Kd.C_alloc ?_ _) | (with_reducible refine Kd.C_drewN ?_ _) | (with_reducible refine Kd.C_drew ?_))); (case side2 => exact HC0.out); rintro e w15 ⟨rfl, hb⟩; refine ⟨_, rfl, ?_⟩; have n0_ := Aside0.mk (blk_below (g := gb222) (o := .cells #[.int .i64 ((rd_T29 l0 x11_1).f0), .int .i64 ((rd_T29 l0 x11_1).f1), .int .i64 ((rd_T29 l0 x11_1).f2), .int .i64 ((rd_T29 l0 x11_1).f3), .int .i64 ((rd_T29 l0 x11_1).f4)] 29 (0, 0)) (by (with_reducible repeat (first | refine blk_drewN ?_ _ | refine blk_drew ?_ | refine blk_alloc ?_ _)); exact BK222.out) hb); have n1_ := Aside0.mk (below_step (by repeat (first | (with_reducible first | exact HB.out | apply below_alloc | apply pw_below_drewN | apply below_drew1 | refine below_set ?_ GE222.out) | exact HB.out)) hb); clear BK222; clear HB; have BK222 := n0_; have HB := n1_; clear n0_ n1_; (try clear hb); (try clear hb2); (try clear hk); (try clear hi)) | ((with_reducible refine gate_callee (f := 16) rfl ?_); refine goesL_ (some 27) rfl rfl Tryd.func16 (by kernel_rfl) rfl #[.slice (some ad221) l0.length c0, .int .i64 x5_2] rfl (by (try simp only [List.map_toArray, List.map_cons, List.map_nil]); first | done | rfl | (simp only [List.length_drop, List.length_take]; rfl)) ?_; (with_reducible refine (edf_demand.calls _ _ l0 x5_2 t224 _ ?side1 ?side2 A12.out).mono ?_); (case side1 => repeat (first | exact (Kd.C_below HR0.out HB.out) | (with_reducible refine Kd.C_alloc ?_ _) | (with_reducible refine Kd.C_drewN ?_ _) | (with_reducible refine Kd.C_drew ?_))); (case side2 => exact HC0.out); rintro e w16 ⟨rfl, hb⟩; refine ⟨_, rfl, ?_⟩; have n0_ := Aside0.mk (blk_below (g := gb222) (o := .cells #[.int .i64 ((rd_T29 l0 x11_1).f0), .int .i64 ((rd_T29 l0 x11_1).f1), .int .i64 ((rd_T29 l0 x11_1).f2), .int .i64 ((rd_T29 l0 x11_1).f3), .int .i64 ((rd_T29 l0 x11_1).f4)] 29 (0, 0)) (by (with_reducible repeat (first | refine blk_drewN ?_ _ | refine blk_drew ?_ | refine blk_alloc ?_ _)); exact BK222.out) hb); have n1_ := Aside0.mk (below_step (by repeat (first | (with_reducible first | exact HB.out | apply below_alloc | apply pw_below_drewN | apply below_drew1 | refine below_set ?_ GE222.out) | exact HB.out)) hb); clear BK222; clear HB; have BK222 := n0_; have HB := n1_; clear n0_ n1_; (try clear hb); (try clear hb2); (try clear hk); (try clear hi)) | ((with_reducible refine gate_callee (f := 17) rfl ?_); refine goesL_ (some 30) rfl rfl Tryd.func17 (by kernel_rfl) rfl #[.slice (some ad221) l0.length c0, .int .i64 x5_2] rfl (by (try simp only [List.map_toArray, List.map_cons, List.map_nil]); first | done | rfl | (simp only [List.length_drop, List.length_take]; rfl)) ?_; (with_reducible refine (edf_block.calls _ _ l0 x5_2 t225 _ ?side1 ?side2 A13.out).mono ?_); (case side1 => repeat (first | exact (Kd.C_below HR0.out HB.out) | (with_reducible refine Kd.C_alloc ?_ _) | (with_reducible refine Kd.C_drewN ?_ _) | (with_reducible refine Kd.C_drew ?_))); (case side2 => exact HC0.out); rintro e w17 ⟨rfl, hb⟩; refine ⟨_, rfl, ?_⟩; have n0_ := Aside0.mk (blk_below (g := gb222) (o := .cells #[.int .i64 ((rd_T29 l0 x11_1).f0), .int .i64 ((rd_T29 l0 x11_1).f1), .int .i64 ((rd_T29 l0 x11_1).f2), .int .i64 ((rd_T29 l0 x11_1).f3), .int .i64 ((rd_T29 l0 x11_1).f4)] 29 (0, 0)) (by (with_reducible repeat (first | refine blk_drewN ?_ _ | refine blk_drew ?_ | refine blk_alloc ?_ _)); exact BK222.out) hb); have n1_ := Aside0.mk (below_step (by repeat (first | (with_reducible first | exact HB.out | apply below_alloc | apply pw_below_drewN | apply below_drew1 | refine below_set ?_ GE222.out) | exact HB.out)) hb); clear BK222; clear HB; have BK222 := n0_; have HB := n1_; clear n0_ n1_; (try clear hb); (try clear hb2); (try clear hk); (try clear hi)))
                      go_ret
                      exact ⟨by first | rfl | (simp [errW_none, errW_some] <;> rfl) | (simp [*, errW_none, errW_some] <;> rfl), by repeat (first | (with_reducible first | exact HB.out | apply below_alloc | apply pw_below_drewN | apply below_drew1 | refine below_set ?_ GE222.out) | exact HB.out)⟩
                    · rw [if_neg c14] at H
                      have c14b0 : decide (x5_2 < (wrap64 (t224 + t225))) = false := decide_eq_false c14
                      clear c14
                      have H' := Aside0.mk H
                      clear H
                      go_wp2_with (first | ((with_reducible refine gate_callee (f := 15) rfl ?_); refine goesL_ (some 19) rfl rfl Tryd.func15 (by kernel_rfl) rfl #[.slice (some ad221) l0.length c0] rfl (by (try simp only [List.map_toArray, List.map_cons, List.map_nil]); first | done | rfl | (simp only [List.length_drop, List.length_take]; rfl)) ?_; (with_reducible refine (edf_Horizon.calls _ _ l0 t223 _ ?side1 ?side2 A10.out).mono ?_); (case side1 => repeat (first | exact (Kd.C_below HR0.out HB.out) | (with_reducible refine Kd.C_alloc ?_ _) | (with_reducible refine Kd.C_drewN ?_ _) | (with_reducible refine Kd.C_drew ?_))); (case side2 => exact HC0.out); rintro e w18 ⟨rfl, hb⟩; refine ⟨_, rfl, ?_⟩; have n0_ := Aside0.mk (blk_below (g := gb222) (o := .cells #[.int .i64 ((rd_T29 l0 x11_1).f0), .int .i64 ((rd_T29 l0 x11_1).f1), .int .i64 ((rd_T29 l0 x11_1).f2), .int .i64 ((rd_T29 l0 x11_1).f3), .int .i64 ((rd_T29 l0 x11_1).f4)] 29 (0, 0)) (by (with_reducible repeat (first | refine blk_drewN ?_ _ | refine blk_drew ?_ | refine blk_alloc ?_ _)); exact BK222.out) hb); have n1_ := Aside0.mk (below_step (by repeat (first | (with_reducible first | exact HB.out | apply below_alloc | apply pw_below_drewN | apply below_drew1 | refine below_set ?_ GE222.out) | exact HB.out)) hb); clear BK222; clear HB; have BK222 := n0_; have HB := n1_; clear n0_ n1_; (try clear hb); (try clear hb2); (try clear hk); (try clear hi)) | ((with_reducible refine gate_callee (f := 16) rfl ?_); refine goesL_ (some 27) rfl rfl Tryd.func16 (by kernel_rfl) rfl #[.slice (some ad221) l0.length c0, .int .i64 x5_2] rfl (by (try simp only [List.map_toArray, List.map_cons, List.map_nil]); first | done | rfl | (simp only [List.length_drop, List.length_take]; rfl)) ?_; (with_reducible refine (edf_demand.calls _ _ l0 x5_2 t224 _ ?side1 ?side2 A12.out).mono ?_); (case side1 => repeat (first | exact (Kd.C_below HR0.out HB.out) | (with_reducible refine Kd.C_alloc ?_ _) | (with_reducible refine Kd.C_drewN ?_ _) | (with_reducible refine Kd.C_drew ?_))); (case side2 => exact HC0.out); rintro e w19 ⟨rfl, hb⟩; refine ⟨_, rfl, ?_⟩; have n0_ := Aside0.mk (blk_below (g := gb222) (o := .cells #[.int .i64 ((rd_T29 l0 x11_1).f0), .int .i64 ((rd_T29 l0 x11_1).f1), .int .i64 ((rd_T29 l0 x11_1).f2), .int .i64 ((rd_T29 l0 x11_1).f3), .int .i64 ((rd_T29 l0 x11_1).f4)] 29 (0, 0)) (by (with_reducible repeat (first | refine blk_drewN ?_ _ | refine blk_drew ?_ | refine blk_alloc ?_ _)); exact BK222.out) hb); have n1_ := Aside0.mk (below_step (by repeat (first | (with_reducible first | exact HB.out | apply below_alloc | apply pw_below_drewN | apply below_drew1 | refine below_set ?_ GE222.out) | exact HB.out)) hb); clear BK222; clear HB; have BK222 := n0_; have HB := n1_; clear n0_ n1_; (try clear hb); (try clear hb2); (try clear hk); (try clear hi)) | ((with_reducible refine gate_callee (f := 17) rfl ?_); refine goesL_ (some 30) rfl rfl Tryd.func17 (by kernel_rfl) rfl #[.slice (some ad221) l0.length c0, .int .i64 x5_2] rfl (by (try simp only [List.map_toArray, List.map_cons, List.map_nil]); first | done | rfl | (simp only [List.length_drop, List.length_take]; rfl)) ?_; (with_reducible refine (edf_block.calls _ _ l0 x5_2 t225 _ ?side1 ?side2 A13.out).mono ?_); (case side1 => repeat (first | exact (Kd.C_below HR0.out HB.out) | (with_reducible refine Kd.C_alloc ?_ _) | (with_reducible refine Kd.C_drewN ?_ _) | (with_reducible refine Kd.C_drew ?_))); (case side2 => exact HC0.out); rintro e w20 ⟨rfl, hb⟩; refine ⟨_, rfl, ?_⟩; have n0_ := Aside0.mk (blk_below (g := gb222) (o := .cells #[.int .i64 ((rd_T29 l0 x11_1).f0), .int .i64 ((rd_T29 l0 x11_1).f1), .int .i64 ((rd_T29 l0 x11_1).f2), .int .i64 ((rd_T29 l0 x11_1).f3), .int .i64 ((rd_T29 l0 x11_1).f4)] 29 (0, 0)) (by (with_reducible repeat (first | refine blk_drewN ?_ _ | refine blk_drew ?_ | refine blk_alloc ?_ _)); exact BK222.out) hb); have n1_ := Aside0.mk (below_step (by repeat (first | (with_reducible first | exact HB.out | apply below_alloc | apply pw_below_drewN | apply below_drew1 | refine below_set ?_ GE222.out) | exact HB.out)) hb); clear BK222; clear HB; have BK222 := n0_; have HB := n1_; clear n0_ n1_; (try clear hb); (try clear hb2); (try clear hk); (try clear hi); have hcz21_0 : w20.cell? ⟨gb222, 0, none⟩ = some (.int .i64 ((rd_T29 l0 x11_1).f0)) := (blk_cell BK222.out 0).trans rfl; have hcz21_1 : w20.cell? ⟨gb222, 1, none⟩ = some (.int .i64 ((rd_T29 l0 x11_1).f1)) := (blk_cell BK222.out 1).trans rfl; have hcz21_2 : w20.cell? ⟨gb222, 2, none⟩ = some (.int .i64 ((rd_T29 l0 x11_1).f2)) := (blk_cell BK222.out 2).trans rfl; have hcz21_3 : w20.cell? ⟨gb222, 3, none⟩ = some (.int .i64 ((rd_T29 l0 x11_1).f3)) := (blk_cell BK222.out 3).trans rfl; have hcz21_4 : w20.cell? ⟨gb222, 4, none⟩ = some (.int .i64 ((rd_T29 l0 x11_1).f4)) := (blk_cell BK222.out 4).trans rfl; have hfz21_0 := blk_frozen BK222.out 0; have hfz21_1 := blk_frozen BK222.out 1; have hfz21_2 := blk_frozen BK222.out 2; have hfz21_3 := blk_frozen BK222.out 3; have hfz21_4 := blk_frozen BK222.out 4))
                      go_roundg k2
                      case measure => have := HK1.out; have := HK2.out; omega
                      case rel => exact ⟨(wrap64 (x5_2 + ((rd_T29 l0 x11_1).f4))), (by first | rfl | (simp; done) | (simp [*]; done)), H', ⟨by have := HK1.out; have := HK2.out; omega⟩, ⟨by (with_reducible repeat (first | refine blk_drewN ?_ _ | refine blk_drew ?_ | refine blk_alloc ?_ _)); exact BK222.out⟩, ⟨by repeat (first | (with_reducible first | exact HB.out | apply below_alloc | apply pw_below_drewN | apply below_drew1 | refine below_set ?_ GE222.out) | exact HB.out)⟩⟩
                  · rw [if_neg c11] at H
                    have c11b0 : decide (x5_2 ≤ t223) = false := decide_eq_false c11
                    clear c11
                    have H' := Aside0.mk H
                    clear H
                    go_wp2_with (first | ((with_reducible refine gate_callee (f := 15) rfl ?_); refine goesL_ (some 19) rfl rfl Tryd.func15 (by kernel_rfl) rfl #[.slice (some ad221) l0.length c0] rfl (by (try simp only [List.map_toArray, List.map_cons, List.map_nil]); first | done | rfl | (simp only [List.length_drop, List.length_take]; rfl)) ?_; (with_reducible refine (edf_Horizon.calls _ _ l0 t223 _ ?side1 ?side2 A10.out).mono ?_); (case side1 => repeat (first | exact (Kd.C_below HR0.out HB.out) | (with_reducible refine Kd.C_alloc ?_ _) | (with_reducible refine Kd.C_drewN ?_ _) | (with_reducible refine Kd.C_drew ?_))); (case side2 => exact HC0.out); rintro e w22 ⟨rfl, hb⟩; refine ⟨_, rfl, ?_⟩; have n0_ := Aside0.mk (blk_below (g := gb222) (o := .cells #[.int .i64 ((rd_T29 l0 x11_1).f0), .int .i64 ((rd_T29 l0 x11_1).f1), .int .i64 ((rd_T29 l0 x11_1).f2), .int .i64 ((rd_T29 l0 x11_1).f3), .int .i64 ((rd_T29 l0 x11_1).f4)] 29 (0, 0)) (by (with_reducible repeat (first | refine blk_drewN ?_ _ | refine blk_drew ?_ | refine blk_alloc ?_ _)); exact BK222.out) hb); have n1_ := Aside0.mk (below_step (by repeat (first | (with_reducible first | exact HB.out | apply below_alloc | apply pw_below_drewN | apply below_drew1 | refine below_set ?_ GE222.out) | exact HB.out)) hb); clear BK222; clear HB; have BK222 := n0_; have HB := n1_; clear n0_ n1_; (try clear hb); (try clear hb2); (try clear hk); (try clear hi)))
                    go_roundg k2
                    case measure => have := HK1.out; have := HK2.out; omega
                    case rel => exact ⟨(wrap64 (x11_1 + 1)), (by first | rfl | (simp; done) | (simp [*]; done)), H', ⟨by have := HK1.out; have := HK2.out; omega⟩, ⟨by repeat (first | (with_reducible first | exact HB.out | apply below_alloc | apply pw_below_drewN | apply below_drew1 | refine below_set ?_ GE222.out) | exact HB.out)⟩⟩
            · rw [if_neg c7] at H
              exact absurd H (by simp)
          · rw [if_neg c6] at H
            exact absurd H (by simp)
        · rw [if_neg c5] at H
          have c5b0 : decide (x11_1 < (l0.length : Int)) = false := decide_eq_false c5
          clear c5
          obtain rfl := Option.some.inj H
          go_wp2
          go_ret
          exact ⟨by first | rfl | (simp [errW_none, errW_some] <;> rfl) | (simp [*, errW_none, errW_some] <;> rfl), by repeat (first | (with_reducible first | exact HB.out | apply below_alloc | apply pw_below_drewN | apply below_drew1) | exact HB.out)⟩
  · rw [if_neg c3] at H
    have c3b0 : (t220 == 0) = false := beq_eq_false_iff_ne.mpr c3
    have c3b1 : (t220 != 0) = true := bne_iff_ne.mpr c3
    obtain rfl := Option.some.inj H
    go_enter Tryd.func6, Tryd.ntmps6
    go_wp2_with (first | ((with_reducible refine gate_callee (f := 14) rfl ?_); refine goesL_ (some 7) rfl rfl Tryd.func14 (by kernel_rfl) rfl #[.slice A0 l0.length c0] rfl (by (try simp only [List.map_toArray, List.map_cons, List.map_nil]); first | done | rfl | (simp only [List.length_drop, List.length_take]; rfl)) ?_; (with_reducible refine (edf_Check.calls _ _ l0 t220 _ ?side1 ?side2 A2.out).mono ?_); (case side1 => repeat (first | exact HR0.out | (with_reducible refine Kd.C_alloc ?_ _) | (with_reducible refine Kd.C_drewN ?_ _) | (with_reducible refine Kd.C_drew ?_))); (case side2 => exact HC0.out); rintro e w23 ⟨rfl, hb⟩; refine ⟨_, rfl, ?_⟩; have n0_ := Aside0.mk (below_step (by repeat (first | (with_reducible first | exact HB.out | apply below_alloc | apply pw_below_drewN | apply below_drew1) | exact HB.out)) hb); clear HB; have HB := n0_; clear n0_; (try clear hb); (try clear hb2); (try clear hk); (try clear hi)))
    go_ret
    exact ⟨by first | rfl | (simp [errW_none, errW_some] <;> rfl) | (simp [*, errW_none, errW_some] <;> rfl), by repeat (first | (with_reducible first | exact HB.out | apply below_alloc | apply pw_below_drewN | apply below_drew1) | exact HB.out)⟩
/-! ### trefoillaw18_Own: function 8 -/
def trefoillaw18_Own.l0 : Nat → Int → List (S41) → Int → List (S41) → Int → Option ((List (S41)) × Int)
  | 0, _, _, _, _, _ => none
  | k + 1, x4, x227000, x227001, x229000, x229001 => if x4 < (x227000.length : Int) then (if 0 ≤ x4 then ((some (([] : List Int) : List Int)).bind fun y231 => (if y231.length + ((rd_T41 x227000 x4).f2).length < 17592186044416 then (if x229000.length < 3518437208883 then (trefoillaw18_Own.l0 k (wrap64 (x4 + 1)) x227000 x227001 (x229000 ++ [(⟨(rd_T41 x227000 x4).f0, (rd_T41 x227000 x4).f1, (y231 ++ ((rd_T41 x227000 x4).f2))⟩ : S41)]) x229001) else (none)) else (none))) else (none)) else (some (x229000, x229001))
def trefoillaw18_Own.f (k : Nat) (l0_0 : List (S41)) (a0_1 : Int) : Option ((List (S41)) × Int) := trefoillaw18_Own.l0 k 0 l0_0 a0_1 ([] : List (S41)) a0_1
theorem trefoillaw18_Own.mono_l : ∀ k, (∀ y0 y1 y2 y3 y4, LeO (trefoillaw18_Own.l0 k y0 y1 y2 y3 y4) (trefoillaw18_Own.l0 (k + 1) y0 y1 y2 y3 y4))
  | 0 => fun _ _ _ _ _ r h => by simp [trefoillaw18_Own.l0] at h
  | k + 1 => by
    have ih0 := trefoillaw18_Own.mono_l k
    · intro y0 y1 y2 y3 y4
      unfold trefoillaw18_Own.l0
      repeat' first
      | (with_reducible exact ih0 _ _ _ _ _)
      | (with_reducible exact LeO.refl _)
      | (with_reducible exact LeO.none _)
      | (with_reducible refine LeO.ite ?_ ?_)
      | (with_reducible refine LeO.bind ?_ (fun _ => ?_))
      | exact ih0 _ _ _ _ _
      | exact LeO.none _
      | refine LeO.ite ?_ ?_
      | refine LeO.bind ?_ (fun _ => ?_)
theorem trefoillaw18_Own.mono : ∀ a0 a1 k, LeO (trefoillaw18_Own.f k a0 a1) (trefoillaw18_Own.f (k + 1) a0 a1) := by
  intro a0 a1 k
  have ih0 := trefoillaw18_Own.mono_l k
  unfold trefoillaw18_Own.f
  repeat' first
      | (with_reducible exact ih0 _ _ _ _ _)
      | (with_reducible exact LeO.refl _)
      | (with_reducible exact LeO.none _)
      | (with_reducible refine LeO.ite ?_ ?_)
      | (with_reducible refine LeO.bind ?_ (fun _ => ?_))
      | exact ih0 _ _ _ _ _
      | exact LeO.none _
      | refine LeO.ite ?_ ?_
      | refine LeO.bind ?_ (fun _ => ?_)
set_option maxHeartbeats 8000000 in
set_option maxRecDepth 100000 in
theorem trefoillaw18_Own.calls (k : Nat) (A0_0 : Option Addr) (c0_0 : Nat) (l0_0 : List (S41)) (a0_1 : Int) (r1 : List (S41)) (r2 : Int) (w : World) (hr0_0 : Kd.C k41 w A0_0 l0_0.length l0_0) (hc0_0 : l0_0.length ≤ c0_0) (h : trefoillaw18_Own.f k l0_0 a0_1 = some (r1, r2)) :
    Calls Tryd.prog 8 #[.agg #[.slice A0_0 l0_0.length c0_0, .int .i64 a0_1]] w fun e w' => ∃ v0_ : Value, e = .returned (.agg #[v0_, .int .i64 r2]) ∧ Kd.S k41 41 w' w.heap.size (fun _ => True) v0_ r1 ∧ Below w.heap.size w w' := by
  have hu34 := Tryd.underlying34
  have hu41 := Tryd.underlying41
  have HR0_0 := Aside0.mk hr0_0
  have HC0_0 := Aside0.mk hc0_0
  clear hr0_0 hc0_0
  have HB := Aside0.mk (Below.refl w.heap.size w)
  have H : (trefoillaw18_Own.l0 k 0 l0_0 a0_1 ([] : List (S41)) a0_1) = some (r1, r2) := h
  clear h
  have H' := Aside0.mk H
  clear H
  go_enter Tryd.func8, Tryd.ntmps8
  go_wp2_with (first | ((with_reducible refine gate_dst (N := 1) rfl ?_); refine box_event ?hg (N := 1) ?hd (cs := #[.slice A0_0 l0_0.length c0_0, .int .i64 a0_1]) (t := 34) ?hr ?_; (case hd => rfl); (case hg => rfl); (case hr => first | (go_simp; done) | (go_simp; rfl)); intro gb226 hg w2 hbox hb; have n0_ := Aside0.mk (below_step (by repeat (first | (with_reducible first | exact HB.out | apply below_alloc | apply pw_below_drewN | apply below_drew1) | exact HB.out)) hb); have n1_ := Aside0.mk (hbox); have n2_ := Aside0.mk ((by rw [hg]; exact (below_size (by repeat (first | (with_reducible first | exact HB.out | apply below_alloc | apply pw_below_drewN | apply below_drew1) | exact HB.out))) : w.heap.size ≤ gb226)); have n3_ := Aside0.mk ((by rw [hg]; exact (below_size (by repeat (first | (with_reducible first | exact HB.out | apply below_alloc | apply pw_below_drewN | apply below_drew1) | exact HB.out))) : w.heap.size ≤ gb226)); clear HB; have HB := n0_; have BK226 := n1_; have GW226 := n2_; have GE226 := n3_; clear n0_ n1_ n2_ n3_; clear hb hbox hg) | ((with_reducible refine gate_dst (N := 2) rfl ?_); refine box_event ?hg (N := 2) ?hd (cs := #[.slice none 0 0, .int .i64 0]) (t := 34) ?hr ?_; (case hd => rfl); (case hg => rfl); (case hr => first | (go_simp; done) | (go_simp; rfl)); intro gb227 hg w3 hbox hb; have n0_ := Aside0.mk (blk_below (g := gb226) (o := .cells #[.slice A0_0 l0_0.length c0_0, .int .i64 a0_1] 34 (0, 0)) (by (with_reducible repeat (first | refine blk_drewN ?_ _ | refine blk_drew ?_ | refine blk_alloc ?_ _)); exact BK226.out) hb); have n1_ := Aside0.mk (below_step (by repeat (first | (with_reducible first | exact HB.out | apply below_alloc | apply pw_below_drewN | apply below_drew1 | refine below_set ?_ GE226.out) | exact HB.out)) hb); have n2_ := Aside0.mk (hbox); have n3_ := Aside0.mk ((by rw [hg]; exact (below_size (by repeat (first | (with_reducible first | exact HB.out | apply below_alloc | apply pw_below_drewN | apply below_drew1 | refine below_set ?_ GE226.out) | exact HB.out))) : w.heap.size ≤ gb227)); have n4_ := Aside0.mk ((by rw [hg]; exact (below_size (by repeat (first | (with_reducible first | exact HB.out | apply below_alloc | apply pw_below_drewN | apply below_drew1 | refine below_set ?_ GE226.out) | exact HB.out))) : w.heap.size ≤ gb227)); have n5_ := Aside0.mk ((by rw [hg]; exact Nat.ne_of_lt (blk_lt (g := gb226) (o := .cells #[.slice A0_0 l0_0.length c0_0, .int .i64 a0_1] 34 (0, 0)) (by (with_reducible repeat (first | refine blk_drewN ?_ _ | refine blk_drew ?_ | refine blk_alloc ?_ _)); exact BK226.out)) : gb226 ≠ gb227)); have n6_ := Aside0.mk ((by rw [hg]; exact Nat.ne_of_gt (blk_lt (g := gb226) (o := .cells #[.slice A0_0 l0_0.length c0_0, .int .i64 a0_1] 34 (0, 0)) (by (with_reducible repeat (first | refine blk_drewN ?_ _ | refine blk_drew ?_ | refine blk_alloc ?_ _)); exact BK226.out)) : gb227 ≠ gb226)); clear BK226; clear HB; have BK226 := n0_; have HB := n1_; have BK227 := n2_; have GW227 := n3_; have GE227 := n4_; have NB226_227 := n5_; have NB227_226 := n6_; clear n0_ n1_ n2_ n3_ n4_ n5_ n6_; clear hb hbox hg; have hnb4 := NB226_227.out; have hnc4 := NB227_226.out; have hcz5_0 : w3.cell? ⟨gb226, 0, none⟩ = some (.slice A0_0 l0_0.length c0_0) := (blk_cell BK226.out 0).trans rfl; have hcz5_1 : w3.cell? ⟨gb226, 1, none⟩ = some (.int .i64 a0_1) := (blk_cell BK226.out 1).trans rfl; have hfz5_0 := blk_frozen BK226.out 0; have hfz5_1 := blk_frozen BK226.out 1) | ((with_reducible refine gate_dst (N := 3) rfl ?_); refine box_event ?hg (N := 3) ?hd (cs := #[.slice none 0 0, .int .i64 0]) (t := 34) ?hr ?_; (case hd => rfl); (case hg => rfl); (case hr => first | (go_simp; done) | (go_simp; rfl)); intro gb228 hg w6 hbox hb; have n0_ := Aside0.mk (blk_below (g := gb226) (o := .cells #[.slice A0_0 l0_0.length c0_0, .int .i64 a0_1] 34 (0, 0)) (by (with_reducible repeat (first | refine blk_drewN ?_ _ | refine blk_drew ?_ | refine blk_alloc ?_ _)); exact BK226.out) hb); have n1_ := Aside0.mk (blk_below (g := gb227) (o := .cells #[.slice none 0 0, .int .i64 0] 34 (0, 0)) (by (with_reducible repeat (first | refine blk_drewN ?_ _ | refine blk_drew ?_ | refine blk_alloc ?_ _)); exact BK227.out) hb); have n2_ := Aside0.mk (below_step (by repeat (first | (with_reducible first | exact HB.out | apply below_alloc | apply pw_below_drewN | apply below_drew1 | refine below_set ?_ GE226.out | refine below_set ?_ GE227.out) | exact HB.out)) hb); have n3_ := Aside0.mk (hbox); have n4_ := Aside0.mk ((by rw [hg]; exact (below_size (by repeat (first | (with_reducible first | exact HB.out | apply below_alloc | apply pw_below_drewN | apply below_drew1 | refine below_set ?_ GE226.out | refine below_set ?_ GE227.out) | exact HB.out))) : w.heap.size ≤ gb228)); have n5_ := Aside0.mk ((by rw [hg]; exact (below_size (by repeat (first | (with_reducible first | exact HB.out | apply below_alloc | apply pw_below_drewN | apply below_drew1 | refine below_set ?_ GE226.out | refine below_set ?_ GE227.out) | exact HB.out))) : w.heap.size ≤ gb228)); have n6_ := Aside0.mk ((by rw [hg]; exact Nat.ne_of_lt (blk_lt (g := gb226) (o := .cells #[.slice A0_0 l0_0.length c0_0, .int .i64 a0_1] 34 (0, 0)) (by (with_reducible repeat (first | refine blk_drewN ?_ _ | refine blk_drew ?_ | refine blk_alloc ?_ _)); exact BK226.out)) : gb226 ≠ gb228)); have n7_ := Aside0.mk ((by rw [hg]; exact Nat.ne_of_gt (blk_lt (g := gb226) (o := .cells #[.slice A0_0 l0_0.length c0_0, .int .i64 a0_1] 34 (0, 0)) (by (with_reducible repeat (first | refine blk_drewN ?_ _ | refine blk_drew ?_ | refine blk_alloc ?_ _)); exact BK226.out)) : gb228 ≠ gb226)); have n8_ := Aside0.mk ((by rw [hg]; exact Nat.ne_of_lt (blk_lt (g := gb227) (o := .cells #[.slice none 0 0, .int .i64 0] 34 (0, 0)) (by (with_reducible repeat (first | refine blk_drewN ?_ _ | refine blk_drew ?_ | refine blk_alloc ?_ _)); exact BK227.out)) : gb227 ≠ gb228)); have n9_ := Aside0.mk ((by rw [hg]; exact Nat.ne_of_gt (blk_lt (g := gb227) (o := .cells #[.slice none 0 0, .int .i64 0] 34 (0, 0)) (by (with_reducible repeat (first | refine blk_drewN ?_ _ | refine blk_drew ?_ | refine blk_alloc ?_ _)); exact BK227.out)) : gb228 ≠ gb227)); clear BK226; clear BK227; clear HB; have BK226 := n0_; have BK227 := n1_; have HB := n2_; have BK228 := n3_; have GW228 := n4_; have GE228 := n5_; have NB226_228 := n6_; have NB228_226 := n7_; have NB227_228 := n8_; have NB228_227 := n9_; clear n0_ n1_ n2_ n3_ n4_ n5_ n6_ n7_ n8_ n9_; clear hb hbox hg; have hnb7 := NB228_226.out; have hnc7 := NB226_228.out; have hnb8 := NB228_227.out; have hnc8 := NB227_228.out; have hcz9_0 : w6.cell? ⟨gb228, 0, none⟩ = some (.slice none 0 0) := (blk_cell BK228.out 0).trans rfl; have hcz9_1 : w6.cell? ⟨gb228, 1, none⟩ = some (.int .i64 0) := (blk_cell BK228.out 1).trans rfl; have hfz9_0 := blk_frozen BK228.out 0; have hfz9_1 := blk_frozen BK228.out 1))
  go_loopg [4] k (fun kq v4 w' => ∃ (x4_1 : Int) (x229000_1 : List (S41)) (u229000 : Value), v4 = .int .i64 x4_1 ∧ Aside0 (trefoillaw18_Own.l0 kq x4_1 l0_0 a0_1 x229000_1 a0_1 = some (r1, r2)) ∧ Aside0 (kq ≤ k) ∧ Aside0 (Kd.S k41 41 w' w.heap.size (fun _ => True) u229000 x229000_1) ∧ Aside0 (w'.heap[gb226]? = some (.cells #[(.slice A0_0 l0_0.length c0_0), .int .i64 a0_1] 34 (0, 0))) ∧ Aside0 (w'.heap[gb227]? = some (.cells #[(.slice none 0 0), .int .i64 0] 34 (0, 0))) ∧ Aside0 (w'.heap[gb228]? = some (.cells #[u229000, .int .i64 a0_1] 34 (0, 0))) ∧ Aside0 (Below w.heap.size w w'))
  case atStart => exact ⟨(0), (([] : List (S41))), (.slice none 0 0), (by first | rfl | (simp; done) | (simp [*]; done)), H', ⟨Nat.le_refl _⟩, ⟨by first | exact Kd.S_nil _ _ _ _ _ | exact Kd.N_nil _ _ _ _ _ | exact Kd.V_nil _ _ _ _ _ | exact Kd.Q_nil _ _ _ _ _ | exact Kd.R_nil _ _ _ _ _⟩, ⟨by (with_reducible repeat (first | refine blk_drewN ?_ _ | refine blk_drew ?_ | refine blk_alloc ?_ _)); refine blk_far ?_ NB226_228.out _; (with_reducible repeat (first | refine blk_drewN ?_ _ | refine blk_drew ?_ | refine blk_alloc ?_ _)); refine blk_far ?_ NB226_228.out _; (with_reducible repeat (first | refine blk_drewN ?_ _ | refine blk_drew ?_ | refine blk_alloc ?_ _)); exact BK226.out⟩, ⟨by (with_reducible repeat (first | refine blk_drewN ?_ _ | refine blk_drew ?_ | refine blk_alloc ?_ _)); refine blk_far ?_ NB227_228.out _; (with_reducible repeat (first | refine blk_drewN ?_ _ | refine blk_drew ?_ | refine blk_alloc ?_ _)); refine blk_far ?_ NB227_228.out _; (with_reducible repeat (first | refine blk_drewN ?_ _ | refine blk_drew ?_ | refine blk_alloc ?_ _)); exact BK227.out⟩, ⟨by (with_reducible repeat (first | refine blk_drewN ?_ _ | refine blk_drew ?_ | refine blk_alloc ?_ _)); refine blk_put (cs := #[.slice none 0 0, .int .i64 0]) ?_ 1 _ rfl; (with_reducible repeat (first | refine blk_drewN ?_ _ | refine blk_drew ?_ | refine blk_alloc ?_ _)); refine blk_put (cs := #[.slice none 0 0, .int .i64 0]) ?_ 0 _ rfl; (with_reducible repeat (first | refine blk_drewN ?_ _ | refine blk_drew ?_ | refine blk_alloc ?_ _)); exact BK228.out⟩, ⟨by repeat (first | (with_reducible first | exact HB.out | apply below_alloc | apply pw_below_drewN | apply below_drew1 | refine below_set ?_ GE226.out | refine below_set ?_ GE227.out | refine below_set ?_ GE228.out) | exact HB.out)⟩⟩
  case round =>
    clear H'
    try clear p2
    try clear c4
    try clear c7
    try clear c8
    try clear hcz5_0
    try clear hcz5_1
    try clear hcz9_0
    try clear hcz9_1
    try clear hfz5_0
    try clear hfz5_1
    try clear hfz9_0
    try clear hfz9_1
    obtain ⟨x4_1, x229000_1, u229000, rfl, HA, HK1, HO_229000, BK226, BK227, BK228, HB⟩ := hrel
    cases gk with
    | zero => exact absurd HA.out (by simp [trefoillaw18_Own.l0])
    | succ k1 =>
      have H := HA.out
      clear HA
      simp only [trefoillaw18_Own.l0] at H
      by_cases c10 : x4_1 < (l0_0.length : Int)
      · rw [if_pos c10] at H
        have c10b0 : decide (x4_1 < (l0_0.length : Int)) = true := decide_eq_true c10
        clear c10
        by_cases c11 : 0 ≤ x4_1
        · rw [if_pos c11] at H
          have c11b0 : decide (0 ≤ x4_1) = true := decide_eq_true c11
          clear c11
          obtain ⟨y231, hy231⟩ : ∃ y_ : List Int, y_ = (([] : List Int)) := ⟨_, rfl⟩
          replace H : (if y231.length + ((rd_T41 l0_0 x4_1).f2).length < 17592186044416 then (if x229000_1.length < 3518437208883 then (trefoillaw18_Own.l0 k1 (wrap64 (x4_1 + 1)) l0_0 a0_1 (x229000_1 ++ [(⟨(rd_T41 l0_0 x4_1).f0, (rd_T41 l0_0 x4_1).f1, (y231 ++ ((rd_T41 l0_0 x4_1).f2))⟩ : S41)]) a0_1) else (none)) else (none)) = some (r1, r2) := by first | (rw [hy231]; with_reducible exact H) | (have H2_ := (Option.bind_some _ _).symm.trans H; rw [hy231]; with_reducible exact H2_) | (have H2_ := (Option.bind_some _ _).symm.trans H; with_reducible exact H2_) | with_reducible exact H | (rw [hy231]; exact H) | exact H
          have Ny231 := Aside0.mk hy231
          clear hy231
          by_cases c12 : y231.length + ((rd_T41 l0_0 x4_1).f2).length < 17592186044416
          · rw [if_pos c12] at H
            have LMc12 := Aside0.mk c12
            clear c12
            obtain ⟨y234, hy234⟩ : ∃ y_ : List Int, y_ = (y231 ++ ((rd_T41 l0_0 x4_1).f2)) := ⟨_, rfl⟩
            replace H : (if x229000_1.length < 3518437208883 then (trefoillaw18_Own.l0 k1 (wrap64 (x4_1 + 1)) l0_0 a0_1 (x229000_1 ++ [(⟨(rd_T41 l0_0 x4_1).f0, (rd_T41 l0_0 x4_1).f1, y234⟩ : S41)]) a0_1) else (none)) = some (r1, r2) := by first | (rw [hy234]; with_reducible exact H) | (have H2_ := (Option.bind_some _ _).symm.trans H; rw [hy234]; with_reducible exact H2_) | (have H2_ := (Option.bind_some _ _).symm.trans H; with_reducible exact H2_) | with_reducible exact H | (rw [hy234]; exact H) | exact H
            have Ny234 := Aside0.mk hy234
            clear hy234
            by_cases c13 : x229000_1.length < 3518437208883
            · rw [if_pos c13] at H
              have LMc13 := Aside0.mk c13
              clear c13
              obtain ⟨y237, hy237⟩ : ∃ y_ : List (S41), y_ = (x229000_1 ++ [(⟨(rd_T41 l0_0 x4_1).f0, (rd_T41 l0_0 x4_1).f1, y234⟩ : S41)]) := ⟨_, rfl⟩
              replace H : (trefoillaw18_Own.l0 k1 (wrap64 (x4_1 + 1)) l0_0 a0_1 y237 a0_1) = some (r1, r2) := by first | (rw [hy237]; with_reducible exact H) | (have H2_ := (Option.bind_some _ _).symm.trans H; rw [hy237]; with_reducible exact H2_) | (have H2_ := (Option.bind_some _ _).symm.trans H; with_reducible exact H2_) | with_reducible exact H | (rw [hy237]; exact H) | exact H
              have Ny237 := Aside0.mk hy237
              clear hy237
              have H' := Aside0.mk H
              clear H
              have hnb14 := NB226_227.out
              have hnc14 := NB227_226.out
              have hnb15 := NB226_228.out
              have hnc15 := NB228_226.out
              have hcz16_0 : wr.cell? ⟨gb226, 0, none⟩ = some (.slice A0_0 l0_0.length c0_0) := (blk_cell BK226.out 0).trans rfl
              have hcz16_1 : wr.cell? ⟨gb226, 1, none⟩ = some (.int .i64 a0_1) := (blk_cell BK226.out 1).trans rfl
              have hfz16_0 := blk_frozen BK226.out 0
              have hfz16_1 := blk_frozen BK226.out 1
              have p229 : 0 ≤ (x4_1 : Int) := of_decide_eq_true (by first | (with_reducible assumption) | assumption)
              have q229 : x4_1 < (l0_0.length : Int) := of_decide_eq_true (by first | (with_reducible assumption) | assumption)
              obtain ⟨ad229, A229_2, c229_2, e229, hx229_0, hx229_1, hx229_2, hl229_2, hi229_2⟩ := at_T41 HR0_0.out x4_1 p229 q229
              cases e229
              replace hx229_0 := (HB.out.cell (World.block_lt_of_cell? w _ hx229_0)).trans hx229_0
              replace hx229_1 := (HB.out.cell (World.block_lt_of_cell? w _ hx229_1)).trans hx229_1
              replace hx229_2 := (HB.out.cell (World.block_lt_of_cell? w _ hx229_2)).trans hx229_2
              have HR229_2 := Aside0.mk hi229_2
              have HC229_2 := Aside0.mk hl229_2
              clear hi229_2 hl229_2
              replace p229 := eq_true p229
              replace q229 := eq_true q229
              go_wp2_with (first | ((with_reducible refine gate_dst (N := 5) rfl ?_); refine box_event ?hg (N := 5) ?hd (cs := #[.int .i64 0, .int .i64 0, .slice none 0 0]) (t := 41) ?hr ?_; (case hd => rfl); (case hg => rfl); (case hr => first | (go_simp; done) | (go_simp; rfl)); intro gb230 hg w17 hbox hb; have n0_ := Aside0.mk (Kd.S_below (Kd.S_elderB (by (with_reducible repeat (first | apply Kd.S_alloc | apply Kd.S_drewN | apply Kd.S_drew)); exact HO_229000.out) gb230 (Nat.le_of_eq hg.symm)) hb); have n1_ := Aside0.mk (blk_below (g := gb226) (o := .cells #[.slice (some ad229) l0_0.length c0_0, .int .i64 a0_1] 34 (0, 0)) (by (with_reducible repeat (first | refine blk_drewN ?_ _ | refine blk_drew ?_ | refine blk_alloc ?_ _)); exact BK226.out) hb); have n2_ := Aside0.mk (blk_below (g := gb227) (o := .cells #[.slice none 0 0, .int .i64 0] 34 (0, 0)) (by (with_reducible repeat (first | refine blk_drewN ?_ _ | refine blk_drew ?_ | refine blk_alloc ?_ _)); exact BK227.out) hb); have n3_ := Aside0.mk (blk_below (g := gb228) (o := .cells #[u229000, .int .i64 a0_1] 34 (0, 0)) (by (with_reducible repeat (first | refine blk_drewN ?_ _ | refine blk_drew ?_ | refine blk_alloc ?_ _)); exact BK228.out) hb); have n4_ := Aside0.mk (below_step (by repeat (first | (with_reducible first | exact HB.out | apply below_alloc | apply pw_below_drewN | apply below_drew1 | refine below_set ?_ GE226.out | refine below_set ?_ GE227.out | refine below_set ?_ GE228.out) | exact HB.out)) hb); have n5_ := Aside0.mk (hbox); have n6_ := Aside0.mk ((by rw [hg]; exact (below_size (by repeat (first | (with_reducible first | exact HB.out | apply below_alloc | apply pw_below_drewN | apply below_drew1 | refine below_set ?_ GE226.out | refine below_set ?_ GE227.out | refine below_set ?_ GE228.out) | exact HB.out))) : w.heap.size ≤ gb230)); have n7_ := Aside0.mk ((by rw [hg]; exact (below_size (by repeat (first | (with_reducible first | exact HB.out | apply below_alloc | apply pw_below_drewN | apply below_drew1 | refine below_set ?_ GE226.out | refine below_set ?_ GE227.out | refine below_set ?_ GE228.out) | exact HB.out))) : w.heap.size ≤ gb230)); have n8_ := Aside0.mk ((by rw [hg]; exact Nat.ne_of_lt (blk_lt (g := gb226) (o := .cells #[.slice (some ad229) l0_0.length c0_0, .int .i64 a0_1] 34 (0, 0)) (by (with_reducible repeat (first | refine blk_drewN ?_ _ | refine blk_drew ?_ | refine blk_alloc ?_ _)); exact BK226.out)) : gb226 ≠ gb230)); have n9_ := Aside0.mk ((by rw [hg]; exact Nat.ne_of_gt (blk_lt (g := gb226) (o := .cells #[.slice (some ad229) l0_0.length c0_0, .int .i64 a0_1] 34 (0, 0)) (by (with_reducible repeat (first | refine blk_drewN ?_ _ | refine blk_drew ?_ | refine blk_alloc ?_ _)); exact BK226.out)) : gb230 ≠ gb226)); have n10_ := Aside0.mk ((by rw [hg]; exact Nat.ne_of_lt (blk_lt (g := gb227) (o := .cells #[.slice none 0 0, .int .i64 0] 34 (0, 0)) (by (with_reducible repeat (first | refine blk_drewN ?_ _ | refine blk_drew ?_ | refine blk_alloc ?_ _)); exact BK227.out)) : gb227 ≠ gb230)); have n11_ := Aside0.mk ((by rw [hg]; exact Nat.ne_of_gt (blk_lt (g := gb227) (o := .cells #[.slice none 0 0, .int .i64 0] 34 (0, 0)) (by (with_reducible repeat (first | refine blk_drewN ?_ _ | refine blk_drew ?_ | refine blk_alloc ?_ _)); exact BK227.out)) : gb230 ≠ gb227)); have n12_ := Aside0.mk ((by rw [hg]; exact Nat.ne_of_lt (blk_lt (g := gb228) (o := .cells #[u229000, .int .i64 a0_1] 34 (0, 0)) (by (with_reducible repeat (first | refine blk_drewN ?_ _ | refine blk_drew ?_ | refine blk_alloc ?_ _)); exact BK228.out)) : gb228 ≠ gb230)); have n13_ := Aside0.mk ((by rw [hg]; exact Nat.ne_of_gt (blk_lt (g := gb228) (o := .cells #[u229000, .int .i64 a0_1] 34 (0, 0)) (by (with_reducible repeat (first | refine blk_drewN ?_ _ | refine blk_drew ?_ | refine blk_alloc ?_ _)); exact BK228.out)) : gb230 ≠ gb228)); clear HO_229000; clear BK226; clear BK227; clear BK228; clear HB; have HO_229000 := n0_; have BK226 := n1_; have BK227 := n2_; have BK228 := n3_; have HB := n4_; have BK230 := n5_; have GW230 := n6_; have GE230 := n7_; have NB226_230 := n8_; have NB230_226 := n9_; have NB227_230 := n10_; have NB230_227 := n11_; have NB228_230 := n12_; have NB230_228 := n13_; clear n0_ n1_ n2_ n3_ n4_ n5_ n6_ n7_ n8_ n9_ n10_ n11_ n12_ n13_; clear hb hbox hg; have hnb18 := NB230_226.out; have hnc18 := NB226_230.out; have hnb19 := NB230_227.out; have hnc19 := NB227_230.out; have hnb20 := NB230_228.out; have hnc20 := NB228_230.out; have hcz21_0 : w17.cell? ⟨gb230, 0, none⟩ = some (.int .i64 0) := (blk_cell BK230.out 0).trans rfl; have hcz21_1 : w17.cell? ⟨gb230, 1, none⟩ = some (.int .i64 0) := (blk_cell BK230.out 1).trans rfl; have hcz21_2 : w17.cell? ⟨gb230, 2, none⟩ = some (.slice none 0 0) := (blk_cell BK230.out 2).trans rfl; have hfz21_0 := blk_frozen BK230.out 0; have hfz21_1 := blk_frozen BK230.out 1; have hfz21_2 := blk_frozen BK230.out 2) | ((with_reducible refine gate_dst (N := 21) rfl ?_); refine Kd.R_lit (Kd.int .i64) _ 3 ?hg (N := 21) ?hd (xs := ([] : List Int)) (inner := []) (ok := fun _ => True) (okp := fun _ => True) ?hr ?hp (fun _ hk => hk) trivial (Below.refl _ _) (Nat.le_refl _) (by simp) ?_; (case hd => rfl); (case hg => rfl); (case hr => first | (go_simp; done) | (go_simp; rfl)); (case hp => exact (Reps.none _ _)); intro v232 w22 ho23 hb hg_ hnew_; clear hg_ hnew_; (first | rw [← Ny231.out] at ho23 | (simp only [Int.reduceToNat] at ho23; rw [← Ny231.out] at ho23)); have n0_ := Aside0.mk (Kd.S_elder' (by (with_reducible repeat (first | apply Kd.S_alloc | apply Kd.S_drewN | apply Kd.S_drew)); exact (Kd.S_mono (Kd.S_far (p := ⟨gb230, 2, none⟩) (Kd.S_far (p := ⟨gb230, 1, none⟩) (Kd.S_far (p := ⟨gb230, 0, none⟩) (Kd.S_mono HO_229000.out (fun k_ hk => (⟨hk, hk.2⟩ : _ ∧ k_ ≠ gb230))) (fun _ hk => hk.2) (.int .i64 ((rd_T41 l0_0 x4_1).f0))) (fun _ hk => hk.2) (.int .i64 ((rd_T41 l0_0 x4_1).f1))) (fun _ hk => hk.2) (.slice A229_2 ((rd_T41 l0_0 x4_1).f2).length c229_2)) (fun _ h_ => h_.1))) (Kd.R_base ho23) hb); have n1_ := Aside0.mk (Kd.R_lower ho23 (below_size (by repeat (first | (with_reducible first | exact HB.out | apply below_alloc | apply pw_below_drewN | apply below_drew1 | refine below_set ?_ GE226.out | refine below_set ?_ GE227.out | refine below_set ?_ GE228.out | refine below_set ?_ GE230.out) | exact HB.out)))); have n2_ := Aside0.mk (blk_below (g := gb226) (o := .cells #[.slice (some ad229) l0_0.length c0_0, .int .i64 a0_1] 34 (0, 0)) (by (with_reducible repeat (first | refine blk_drewN ?_ _ | refine blk_drew ?_ | refine blk_alloc ?_ _)); refine blk_far ?_ NB226_230.out _; (with_reducible repeat (first | refine blk_drewN ?_ _ | refine blk_drew ?_ | refine blk_alloc ?_ _)); refine blk_far ?_ NB226_230.out _; (with_reducible repeat (first | refine blk_drewN ?_ _ | refine blk_drew ?_ | refine blk_alloc ?_ _)); refine blk_far ?_ NB226_230.out _; (with_reducible repeat (first | refine blk_drewN ?_ _ | refine blk_drew ?_ | refine blk_alloc ?_ _)); exact BK226.out) hb); have n3_ := Aside0.mk (blk_below (g := gb227) (o := .cells #[.slice none 0 0, .int .i64 0] 34 (0, 0)) (by (with_reducible repeat (first | refine blk_drewN ?_ _ | refine blk_drew ?_ | refine blk_alloc ?_ _)); refine blk_far ?_ NB227_230.out _; (with_reducible repeat (first | refine blk_drewN ?_ _ | refine blk_drew ?_ | refine blk_alloc ?_ _)); refine blk_far ?_ NB227_230.out _; (with_reducible repeat (first | refine blk_drewN ?_ _ | refine blk_drew ?_ | refine blk_alloc ?_ _)); refine blk_far ?_ NB227_230.out _; (with_reducible repeat (first | refine blk_drewN ?_ _ | refine blk_drew ?_ | refine blk_alloc ?_ _)); exact BK227.out) hb); have n4_ := Aside0.mk (blk_below (g := gb228) (o := .cells #[u229000, .int .i64 a0_1] 34 (0, 0)) (by (with_reducible repeat (first | refine blk_drewN ?_ _ | refine blk_drew ?_ | refine blk_alloc ?_ _)); refine blk_far ?_ NB228_230.out _; (with_reducible repeat (first | refine blk_drewN ?_ _ | refine blk_drew ?_ | refine blk_alloc ?_ _)); refine blk_far ?_ NB228_230.out _; (with_reducible repeat (first | refine blk_drewN ?_ _ | refine blk_drew ?_ | refine blk_alloc ?_ _)); refine blk_far ?_ NB228_230.out _; (with_reducible repeat (first | refine blk_drewN ?_ _ | refine blk_drew ?_ | refine blk_alloc ?_ _)); exact BK228.out) hb); have n5_ := Aside0.mk (blk_below (g := gb230) (o := .cells #[.int .i64 ((rd_T41 l0_0 x4_1).f0), .int .i64 ((rd_T41 l0_0 x4_1).f1), .slice A229_2 ((rd_T41 l0_0 x4_1).f2).length c229_2] 41 (0, 0)) (by (with_reducible repeat (first | refine blk_drewN ?_ _ | refine blk_drew ?_ | refine blk_alloc ?_ _)); refine blk_put (cs := #[.int .i64 ((rd_T41 l0_0 x4_1).f0), .int .i64 ((rd_T41 l0_0 x4_1).f1), .slice none 0 0]) ?_ 2 _ rfl; (with_reducible repeat (first | refine blk_drewN ?_ _ | refine blk_drew ?_ | refine blk_alloc ?_ _)); refine blk_put (cs := #[.int .i64 ((rd_T41 l0_0 x4_1).f0), .int .i64 0, .slice none 0 0]) ?_ 1 _ rfl; (with_reducible repeat (first | refine blk_drewN ?_ _ | refine blk_drew ?_ | refine blk_alloc ?_ _)); refine blk_put (cs := #[.int .i64 0, .int .i64 0, .slice none 0 0]) ?_ 0 _ rfl; (with_reducible repeat (first | refine blk_drewN ?_ _ | refine blk_drew ?_ | refine blk_alloc ?_ _)); exact BK230.out) hb); have n6_ := Aside0.mk (below_step (by repeat (first | (with_reducible first | exact HB.out | apply below_alloc | apply pw_below_drewN | apply below_drew1 | refine below_set ?_ GE226.out | refine below_set ?_ GE227.out | refine below_set ?_ GE228.out | refine below_set ?_ GE230.out) | exact HB.out)) hb); clear HO_229000; clear BK226; clear BK227; clear BK228; clear BK230; clear HB; have HO_229000 := n0_; have HO233 := n1_; have BK226 := n2_; have BK227 := n3_; have BK228 := n4_; have BK230 := n5_; have HB := n6_; clear n0_ n1_ n2_ n3_ n4_ n5_ n6_; clear hb ho23; have hcz24_0 : w22.cell? ⟨gb230, 0, none⟩ = some (.int .i64 ((rd_T41 l0_0 x4_1).f0)) := (blk_cell BK230.out 0).trans rfl; have hcz24_1 : w22.cell? ⟨gb230, 1, none⟩ = some (.int .i64 ((rd_T41 l0_0 x4_1).f1)) := (blk_cell BK230.out 1).trans rfl; have hcz24_2 : w22.cell? ⟨gb230, 2, none⟩ = some (.slice A229_2 ((rd_T41 l0_0 x4_1).f2).length c229_2) := (blk_cell BK230.out 2).trans rfl; have hfz24_0 := blk_frozen BK230.out 0; have hfz24_1 := blk_frozen BK230.out 1; have hfz24_2 := blk_frozen BK230.out 2) | ((with_reducible refine gate_builtin (b := .append) (xs := #[.tmp 21, .tmp 23]) rfl ?_); at_builtin; refine Kd.R_append_rows (Kd.int .i64) (w0 := w) w.heap.size rfl (.tmp 21) (.tmp 23) 23 3 (.int .i64 0) 8 rfl Tryd.underlying23 info3 rfl (by decide) (by omega) v232 y231 ((rd_T41 l0_0 x4_1).f2) _ _ _ (fun _ => True) (fun _ => False) rfl rfl ?aO ?aR (fun _ _ h => h) (fun _ h => h.elim) ?aF ?aB ?aS ?aL ?_; (case aR => repeat (first | exact (Kd.C_below HR229_2.out HB.out) | (with_reducible refine Kd.C_alloc ?_ _) | (with_reducible refine Kd.C_drewN ?_ _) | (with_reducible refine Kd.C_drew ?_))); (case aB => exact (by repeat (first | (with_reducible first | exact HB.out | apply below_alloc | apply pw_below_drewN | apply below_drew1 | refine below_set ?_ GE226.out | refine below_set ?_ GE227.out | refine below_set ?_ GE228.out | refine below_set ?_ GE230.out) | exact HB.out))); (case aF => exact (fun _ _ => trivial)); (case aO => exact (by (with_reducible repeat (first | apply Kd.R_alloc | apply Kd.R_drewN | apply Kd.R_drew)); exact HO233.out)); (case aS => exact (below_size (by repeat (first | (with_reducible first | exact HB.out | apply below_alloc | apply pw_below_drewN | apply below_drew1 | refine below_set ?_ GE226.out | refine below_set ?_ GE227.out | refine below_set ?_ GE228.out | refine below_set ?_ GE230.out) | exact HB.out)))); (case aL => have := LMc12.out; omega); intro v235 w25 ho hb hg hat; rw [← Ny234.out] at ho; have n0_ := Aside0.mk (Kd.S_after (ok := (fun k_ => k_ ≠ gb230)) (by (with_reducible repeat (first | apply Kd.S_alloc | apply Kd.S_drewN | apply Kd.S_drew)); exact Kd.S_mono HO_229000.out (fun _ hk => ⟨hk.1.2, hk.2⟩)) hg hat); have n1_ := Aside0.mk (blk_grown (g := gb226) (o := .cells #[.slice (some ad229) l0_0.length c0_0, .int .i64 a0_1] 34 (0, 0)) (by (with_reducible repeat (first | refine blk_drewN ?_ _ | refine blk_drew ?_ | refine blk_alloc ?_ _)); exact BK226.out) hg (Kd.R_ne HO233.out BK226.out (by decide))); have n2_ := Aside0.mk (blk_grown (g := gb227) (o := .cells #[.slice none 0 0, .int .i64 0] 34 (0, 0)) (by (with_reducible repeat (first | refine blk_drewN ?_ _ | refine blk_drew ?_ | refine blk_alloc ?_ _)); exact BK227.out) hg (Kd.R_ne HO233.out BK227.out (by decide))); have n3_ := Aside0.mk (blk_grown (g := gb228) (o := .cells #[u229000, .int .i64 a0_1] 34 (0, 0)) (by (with_reducible repeat (first | refine blk_drewN ?_ _ | refine blk_drew ?_ | refine blk_alloc ?_ _)); exact BK228.out) hg (Kd.R_ne HO233.out BK228.out (by decide))); have n4_ := Aside0.mk (blk_grown (g := gb230) (o := .cells #[.int .i64 ((rd_T41 l0_0 x4_1).f0), .int .i64 ((rd_T41 l0_0 x4_1).f1), .slice A229_2 ((rd_T41 l0_0 x4_1).f2).length c229_2] 41 (0, 0)) (by (with_reducible repeat (first | refine blk_drewN ?_ _ | refine blk_drew ?_ | refine blk_alloc ?_ _)); exact BK230.out) hg (Kd.R_ne HO233.out BK230.out (by decide))); have n5_ := Aside0.mk (hb); have n6_ := Aside0.mk (ho); clear HO_229000; clear BK226; clear BK227; clear BK228; clear BK230; clear HB; clear HO233; have HO_229000 := n0_; have BK226 := n1_; have BK227 := n2_; have BK228 := n3_; have BK230 := n4_; have HB := n5_; have HO236 := n6_; clear n0_ n1_ n2_ n3_ n4_ n5_ n6_; clear ho hb hg hat; obtain ⟨Ao26, co26, eo26⟩ := Kd.R_slice HO236.out; subst eo26; have hcz27_0 : w25.cell? ⟨gb230, 0, none⟩ = some (.int .i64 ((rd_T41 l0_0 x4_1).f0)) := (blk_cell BK230.out 0).trans rfl; have hcz27_1 : w25.cell? ⟨gb230, 1, none⟩ = some (.int .i64 ((rd_T41 l0_0 x4_1).f1)) := (blk_cell BK230.out 1).trans rfl; have hcz27_2 : w25.cell? ⟨gb230, 2, none⟩ = some (.slice A229_2 ((rd_T41 l0_0 x4_1).f2).length c229_2) := (blk_cell BK230.out 2).trans rfl; have hfz27_0 := blk_frozen BK230.out 0; have hfz27_1 := blk_frozen BK230.out 1; have hfz27_2 := blk_frozen BK230.out 2) | ((with_reducible refine gate_store (t := 23) (p := 25) rfl ?_); refine store_event (t := 23) (p := 25) (v := ?vo_w28) (w1 := (w25.setCell ⟨gb230, 2, none⟩ (.slice Ao26 y234.length co26))) ?hg ?ho ?hn ?hr ?_; (case ho => rfl); (case hg => rfl); (case hn => rfl); (case hr => first | (go_simp; done) | (go_simp; rfl)); intro w28 hw; have n0_ : Aside0 (Kd.S k41 41 w28 w.heap.size (fun k_ => some k_ ≠ (.slice Ao26 y234.length co26 : Value).ownBlock ∧ k_ ≠ gb230) u229000 x229000_1) := ⟨(by rw [hw]; exact (by (with_reducible repeat (first | apply Kd.S_alloc | apply Kd.S_drewN | apply Kd.S_drew)); exact Kd.S_mono (Kd.S_far (p := ⟨gb230, 2, none⟩) (Kd.S_mono HO_229000.out (fun k_ hk => (⟨hk, hk.1⟩ : _ ∧ k_ ≠ gb230))) (fun _ hk => hk.2) (.slice Ao26 y234.length co26)) (fun _ hk => ⟨hk.1.2, hk.1.1⟩)))⟩; have n1_ : Aside0 (Kd.R (Kd.int .i64) 3 w28 w.heap.size (fun _ => True) (.slice Ao26 y234.length co26) y234) := ⟨(by rw [hw]; exact (by (with_reducible repeat (first | apply Kd.R_alloc | apply Kd.R_drewN | apply Kd.R_drew)); exact Kd.R_mono (Kd.R_far (p := ⟨gb230, 2, none⟩) (Kd.R_types HO236.out BK230.out (by decide)) (fun _ hk => hk.2) (.slice Ao26 y234.length co26)) (fun _ hk => trivial)))⟩; have n2_ : Aside0 (w28.heap[gb226]? = some (.cells #[.slice (some ad229) l0_0.length c0_0, .int .i64 a0_1] 34 (0, 0))) := ⟨(by rw [hw]; exact (by (with_reducible repeat (first | refine blk_drewN ?_ _ | refine blk_drew ?_ | refine blk_alloc ?_ _)); refine blk_far ?_ NB226_230.out _; (with_reducible repeat (first | refine blk_drewN ?_ _ | refine blk_drew ?_ | refine blk_alloc ?_ _)); exact BK226.out))⟩; have n3_ : Aside0 (w28.heap[gb227]? = some (.cells #[.slice none 0 0, .int .i64 0] 34 (0, 0))) := ⟨(by rw [hw]; exact (by (with_reducible repeat (first | refine blk_drewN ?_ _ | refine blk_drew ?_ | refine blk_alloc ?_ _)); refine blk_far ?_ NB227_230.out _; (with_reducible repeat (first | refine blk_drewN ?_ _ | refine blk_drew ?_ | refine blk_alloc ?_ _)); exact BK227.out))⟩; have n4_ : Aside0 (w28.heap[gb228]? = some (.cells #[u229000, .int .i64 a0_1] 34 (0, 0))) := ⟨(by rw [hw]; exact (by (with_reducible repeat (first | refine blk_drewN ?_ _ | refine blk_drew ?_ | refine blk_alloc ?_ _)); refine blk_far ?_ NB228_230.out _; (with_reducible repeat (first | refine blk_drewN ?_ _ | refine blk_drew ?_ | refine blk_alloc ?_ _)); exact BK228.out))⟩; have n5_ : Aside0 (w28.heap[gb230]? = some (.cells #[.int .i64 ((rd_T41 l0_0 x4_1).f0), .int .i64 ((rd_T41 l0_0 x4_1).f1), .slice Ao26 y234.length co26] 41 (0, 0))) := ⟨(by rw [hw]; exact (by (with_reducible repeat (first | refine blk_drewN ?_ _ | refine blk_drew ?_ | refine blk_alloc ?_ _)); refine blk_put (cs := #[.int .i64 ((rd_T41 l0_0 x4_1).f0), .int .i64 ((rd_T41 l0_0 x4_1).f1), .slice A229_2 ((rd_T41 l0_0 x4_1).f2).length c229_2]) ?_ 2 _ rfl; (with_reducible repeat (first | refine blk_drewN ?_ _ | refine blk_drew ?_ | refine blk_alloc ?_ _)); exact BK230.out))⟩; have n6_ : Aside0 (Below w.heap.size w w28) := ⟨(by rw [hw]; exact (by repeat (first | (with_reducible first | exact HB.out | apply below_alloc | apply pw_below_drewN | apply below_drew1 | refine below_set ?_ GE226.out | refine below_set ?_ GE227.out | refine below_set ?_ GE228.out | refine below_set ?_ GE230.out) | exact HB.out)))⟩; clear hw; clear HO_229000; clear HO236; clear BK226; clear BK227; clear BK228; clear BK230; clear HB; have HO_229000 := n0_; have HO236 := n1_; have BK226 := n2_; have BK227 := n3_; have BK228 := n4_; have BK230 := n5_; have HB := n6_; clear n0_ n1_ n2_ n3_ n4_ n5_ n6_; have hnb29 := NB228_227.out; have hnc29 := NB227_228.out; have hcz30_0 : w28.cell? ⟨gb228, 0, none⟩ = some (u229000) := (blk_cell BK228.out 0).trans rfl; have hcz30_1 : w28.cell? ⟨gb228, 1, none⟩ = some (.int .i64 a0_1) := (blk_cell BK228.out 1).trans rfl; have hfz30_0 := blk_frozen BK228.out 0; have hfz30_1 := blk_frozen BK228.out 1; have hcz31_0 : w28.cell? ⟨gb230, 0, none⟩ = some (.int .i64 ((rd_T41 l0_0 x4_1).f0)) := (blk_cell BK230.out 0).trans rfl; have hcz31_1 : w28.cell? ⟨gb230, 1, none⟩ = some (.int .i64 ((rd_T41 l0_0 x4_1).f1)) := (blk_cell BK230.out 1).trans rfl; have hcz31_2 : w28.cell? ⟨gb230, 2, none⟩ = some (.slice Ao26 y234.length co26) := (blk_cell BK230.out 2).trans rfl; have hfz31_0 := blk_frozen BK230.out 0; have hfz31_1 := blk_frozen BK230.out 1; have hfz31_2 := blk_frozen BK230.out 2) | ((with_reducible refine gate_builtin (b := .append) (xs := #[.tmp 27, .tmp 29]) rfl ?_); at_builtin; refine Kd.S_append k41 (w0 := w) w.heap.size rfl (.tmp 27) (.tmp 29) 32 41 (.agg #[(.int .i64 0), (.int .i64 0), (.slice none 0 0)]) 40 rfl Tryd.underlying32 info41 rfl (by decide) (by omega) u229000 x229000_1 (⟨(rd_T41 l0_0 x4_1).f0, (rd_T41 l0_0 x4_1).f1, y234⟩ : S41) [.int .i64 ((rd_T41 l0_0 x4_1).f0), .int .i64 ((rd_T41 l0_0 x4_1).f1), .slice Ao26 y234.length co26] (fun k_ => k_ ≠ gb230) (fun k_ => some k_ = (.slice Ao26 y234.length co26 : Value).ownBlock) rfl rfl ?aP (fun k_ hk_ => ((Kd.R_mono (ok' := fun k_ => ((fun k_ => k_ ≠ gb230)) k_ ∧ some k_ ≠ (u229000 : Value).ownBlock) (Kd.R_types (Kd.R_apart' (HO236.out) (Kd.S_typed HO_229000.out) (by decide)) BK230.out (by decide)) (fun k_ hk => ⟨hk.2, hk.1.2⟩))).1 k_ hk_.symm) ?aF ?aO ?aB ?aS ?aL ?_; (case aP => exact k41_mkM _ _ _ (⟨(rd_T41 l0_0 x4_1).f0, (rd_T41 l0_0 x4_1).f1, y234⟩ : S41) (Kd.R_mono (Kd.R_tight rfl (Kd.R_mono (ok' := fun k_ => ((fun k_ => k_ ≠ gb230)) k_ ∧ some k_ ≠ (u229000 : Value).ownBlock) (Kd.R_types (Kd.R_apart' (HO236.out) (Kd.S_typed HO_229000.out) (by decide)) BK230.out (by decide)) (fun k_ hk => ⟨hk.2, hk.1.2⟩))) (fun _ h_ => h_))); (case aB => exact (by repeat (first | (with_reducible first | exact HB.out | apply below_alloc | apply pw_below_drewN | apply below_drew1 | refine below_set ?_ GE226.out | refine below_set ?_ GE227.out | refine below_set ?_ GE228.out | refine below_set ?_ GE230.out) | exact HB.out))); (case aF => exact (fun k_ hk => Kd.freshB (g := gb230) (o := .cells #[.int .i64 ((rd_T41 l0_0 x4_1).f0), .int .i64 ((rd_T41 l0_0 x4_1).f1), .slice Ao26 y234.length co26] 41 (0, 0)) (by (with_reducible repeat (first | refine blk_drewN ?_ _ | refine blk_drew ?_ | refine blk_alloc ?_ _)); exact BK230.out) k_ hk)); (case aO => exact (by (with_reducible repeat (first | apply Kd.S_alloc | apply Kd.S_drewN | apply Kd.S_drew)); exact Kd.S_mono HO_229000.out (fun k_ hk => ⟨hk.2, fun e_ => hk.1 e_⟩))); (case aS => exact (below_size (by repeat (first | (with_reducible first | exact HB.out | apply below_alloc | apply pw_below_drewN | apply below_drew1 | refine below_set ?_ GE226.out | refine below_set ?_ GE227.out | refine below_set ?_ GE228.out | refine below_set ?_ GE230.out) | exact HB.out)))); (case aL => have := LMc13.out; omega); intro v238 w32 ho hb hg hat; rw [← Ny237.out] at ho; have n0_ := Aside0.mk (blk_grown (g := gb226) (o := .cells #[.slice (some ad229) l0_0.length c0_0, .int .i64 a0_1] 34 (0, 0)) (by (with_reducible repeat (first | refine blk_drewN ?_ _ | refine blk_drew ?_ | refine blk_alloc ?_ _)); exact BK226.out) hg (Kd.S_ne HO_229000.out BK226.out (by decide))); have n1_ := Aside0.mk (blk_grown (g := gb227) (o := .cells #[.slice none 0 0, .int .i64 0] 34 (0, 0)) (by (with_reducible repeat (first | refine blk_drewN ?_ _ | refine blk_drew ?_ | refine blk_alloc ?_ _)); exact BK227.out) hg (Kd.S_ne HO_229000.out BK227.out (by decide))); have n2_ := Aside0.mk (blk_grown (g := gb228) (o := .cells #[u229000, .int .i64 a0_1] 34 (0, 0)) (by (with_reducible repeat (first | refine blk_drewN ?_ _ | refine blk_drew ?_ | refine blk_alloc ?_ _)); exact BK228.out) hg (Kd.S_ne HO_229000.out BK228.out (by decide))); have n3_ := Aside0.mk (blk_grown (g := gb230) (o := .cells #[.int .i64 ((rd_T41 l0_0 x4_1).f0), .int .i64 ((rd_T41 l0_0 x4_1).f1), .slice Ao26 y234.length co26] 41 (0, 0)) (by (with_reducible repeat (first | refine blk_drewN ?_ _ | refine blk_drew ?_ | refine blk_alloc ?_ _)); exact BK230.out) hg (Kd.S_away HO_229000.out (fun _ hk => hk.2))); have n4_ := Aside0.mk (hb); have n5_ := Aside0.mk (ho); clear BK226; clear BK227; clear BK228; clear BK230; clear HB; clear HO_229000; clear HO236; have BK226 := n0_; have BK227 := n1_; have BK228 := n2_; have BK230 := n3_; have HB := n4_; have HO239 := n5_; clear n0_ n1_ n2_ n3_ n4_ n5_; clear ho hb hg hat; obtain ⟨Ao33, co33, eo33⟩ := Kd.S_slice HO239.out; subst eo33; have hcz34_0 : w32.cell? ⟨gb228, 0, none⟩ = some (u229000) := (blk_cell BK228.out 0).trans rfl; have hcz34_1 : w32.cell? ⟨gb228, 1, none⟩ = some (.int .i64 a0_1) := (blk_cell BK228.out 1).trans rfl; have hfz34_0 := blk_frozen BK228.out 0; have hfz34_1 := blk_frozen BK228.out 1))
              go_roundg k1
              case measure => have := HK1.out; omega
              case rel => exact ⟨(wrap64 (x4_1 + 1)), (y237), (.slice Ao33 y237.length co33), (by first | rfl | (simp; done) | (simp [*]; done)), H', ⟨by have := HK1.out; omega⟩, ⟨by (with_reducible repeat (first | apply Kd.S_alloc | apply Kd.S_drewN | apply Kd.S_drew)); exact Kd.S_mono (Kd.S_far (p := ⟨gb228, 0, none⟩) (Kd.S_types HO239.out BK228.out (by decide)) (fun _ hk => hk.2) (.slice Ao33 y237.length co33)) (fun _ hk => trivial)⟩, ⟨by (with_reducible repeat (first | refine blk_drewN ?_ _ | refine blk_drew ?_ | refine blk_alloc ?_ _)); refine blk_far ?_ NB226_228.out _; (with_reducible repeat (first | refine blk_drewN ?_ _ | refine blk_drew ?_ | refine blk_alloc ?_ _)); exact BK226.out⟩, ⟨by (with_reducible repeat (first | refine blk_drewN ?_ _ | refine blk_drew ?_ | refine blk_alloc ?_ _)); refine blk_far ?_ NB227_228.out _; (with_reducible repeat (first | refine blk_drewN ?_ _ | refine blk_drew ?_ | refine blk_alloc ?_ _)); exact BK227.out⟩, ⟨by (with_reducible repeat (first | refine blk_drewN ?_ _ | refine blk_drew ?_ | refine blk_alloc ?_ _)); refine blk_put (cs := #[u229000, .int .i64 a0_1]) ?_ 0 _ rfl; (with_reducible repeat (first | refine blk_drewN ?_ _ | refine blk_drew ?_ | refine blk_alloc ?_ _)); exact BK228.out⟩, ⟨by repeat (first | (with_reducible first | exact HB.out | apply below_alloc | apply pw_below_drewN | apply below_drew1 | refine below_set ?_ GE226.out | refine below_set ?_ GE227.out | refine below_set ?_ GE228.out | refine below_set ?_ GE230.out) | exact HB.out)⟩⟩
            · rw [if_neg c13] at H
              exact absurd H (by simp)
          · rw [if_neg c12] at H
            exact absurd H (by simp)
        · rw [if_neg c11] at H
          exact absurd H (by simp)
      · rw [if_neg c10] at H
        have c10b0 : decide (x4_1 < (l0_0.length : Int)) = false := decide_eq_false c10
        clear c10
        simp only [Option.some.injEq, Prod.mk.injEq] at H
        obtain ⟨rfl, rfl⟩ := H
        have hnb35 := NB226_227.out
        have hnc35 := NB227_226.out
        have hnb36 := NB226_228.out
        have hnc36 := NB228_226.out
        have hcz37_0 : wr.cell? ⟨gb226, 0, none⟩ = some (.slice A0_0 l0_0.length c0_0) := (blk_cell BK226.out 0).trans rfl
        have hcz37_1 : wr.cell? ⟨gb226, 1, none⟩ = some (.int .i64 a0_1) := (blk_cell BK226.out 1).trans rfl
        have hfz37_0 := blk_frozen BK226.out 0
        have hfz37_1 := blk_frozen BK226.out 1
        have hnb38 := NB228_227.out
        have hnc38 := NB227_228.out
        have hcz39_0 : wr.cell? ⟨gb228, 0, none⟩ = some (u229000) := (blk_cell BK228.out 0).trans rfl
        have hcz39_1 : wr.cell? ⟨gb228, 1, none⟩ = some (.int .i64 a0_1) := (blk_cell BK228.out 1).trans rfl
        have hfz39_0 := blk_frozen BK228.out 0
        have hfz39_1 := blk_frozen BK228.out 1
        obtain ⟨Ao40, co40, eo40⟩ := Kd.S_slice HO_229000.out
        subst eo40
        have hcz41_0 : wr.cell? ⟨gb227, 0, none⟩ = some (.slice none 0 0) := (blk_cell BK227.out 0).trans rfl
        have hcz41_1 : wr.cell? ⟨gb227, 1, none⟩ = some (.int .i64 0) := (blk_cell BK227.out 1).trans rfl
        have hfz41_0 := blk_frozen BK227.out 0
        have hfz41_1 := blk_frozen BK227.out 1
        go_wp2
        refine bodyPost_ret (results_cell_row rfl _ _ gb227 34 #[.slice Ao40 x229000_1.length co40, .int .i64 a0_1] (0, 0) _ rfl (by (with_reducible repeat (first | refine blk_drewN ?_ _ | refine blk_drew ?_ | refine blk_alloc ?_ _)); refine blk_put (cs := #[.slice Ao40 x229000_1.length co40, .int .i64 0]) ?_ 1 _ rfl; (with_reducible repeat (first | refine blk_drewN ?_ _ | refine blk_drew ?_ | refine blk_alloc ?_ _)); refine blk_put (cs := #[.slice none 0 0, .int .i64 0]) ?_ 0 _ rfl; (with_reducible repeat (first | refine blk_drewN ?_ _ | refine blk_drew ?_ | refine blk_alloc ?_ _)); exact BK227.out) Tryd.underlying34 rfl (by kernel_rfl)) rfl ?_
        exact ⟨_, by first | rfl | (simp [errW_none, errW_some] <;> rfl) | (simp [*, errW_none, errW_some] <;> rfl), by (with_reducible repeat (first | apply Kd.S_alloc | apply Kd.S_drewN | apply Kd.S_drew)); exact Kd.S_mono (Kd.S_far (p := ⟨gb227, 1, none⟩) (Kd.S_far (p := ⟨gb227, 0, none⟩) (Kd.S_types HO_229000.out BK227.out (by decide)) (fun _ hk => hk.2) (.slice Ao40 x229000_1.length co40)) (fun _ hk => hk.2) (.int .i64 a0_1)) (fun _ hk => trivial), by repeat (first | (with_reducible first | exact HB.out | apply below_alloc | apply pw_below_drewN | apply below_drew1 | refine below_set ?_ GE226.out | refine below_set ?_ GE227.out | refine below_set ?_ GE228.out) | exact HB.out)⟩
end Go.Proofs.YteodhffgnkdcfaaDoor.Q
