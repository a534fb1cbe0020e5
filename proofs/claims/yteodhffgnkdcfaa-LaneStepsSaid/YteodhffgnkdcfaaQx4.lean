import Derived.Test.YteodhffgnkdcfaaQx0
import Derived.Test.YteodhffgnkdcfaaQx3
namespace Go.Proofs.Yteodhffgnkdcfaa.Q
open Go.RowKit Go.Proofs.YteodhffgnkdcfaaW.PrintWords Go.Proofs.YteodhffgnkdcfaaW.PrintLast Go.Proofs.YteodhffgnkdcfaaW.PrintMore
attribute [local go_sem] max2_int min2_int max_two min_two max_three min_three max_four min_four
set_option linter.unusedVariables false
set_option linter.unusedSimpArgs false
set_option maxHeartbeats 2000000 in
theorem indexJob_calls (p : S27 → Bool) (f : FuncId) (caps : Array Value) (A0 : Option Addr) (c0 : Nat) (l0 : List (S27)) (w : World) (hr : Kd.C k27 w A0 l0.length l0)
    (he : ∀ args W, (callFunc f args).run Try.prog W = .ok (.enter f args) W)
    (hf : ∀ s ∈ l0, ∀ (A_ : Option Addr) (c_ : Nat) (W : World), Below w.heap.size w W → Calls Try.prog f (#[.agg #[.int .i64 s.f0, .int .i64 s.f1, .slice A_ s.f2.length c_]] ++ caps) W fun e w' => e = .returned (.bool (p s)) ∧ Below W.heap.size W w') :
    Calls Try.prog 40 #[.slice A0 l0.length c0, .func (.func f) #[] caps] w fun e w' => e = .returned (.int .i64 (idxP p l0)) ∧ Below w.heap.size w w' := by
  have hl := kd_len hr
  have HR := Aside0.mk hr
  have HF := fun s hs A c W h => Lib.hid (hf s hs A c W h)
  clear hr hf
  go_enter Try.func40, Try.ntmps40
  go_wp2
  go_loopw [8] (fun i w' => ∃ k : Nat, k ≤ l0.length ∧ i = .int .i64 k ∧ Aside0 (∀ j, j < k → p (l0.getD j (z27)) = false) ∧ Aside0 (Below w.heap.size w w')) (fun i _ => l0.length - (intOf i).toNat)
  case atStart => exact ⟨0, Nat.zero_le _, rfl, ⟨fun j hj => absurd hj (by omega)⟩, ⟨Below.refl _ _⟩⟩
  case round =>
    obtain ⟨k, hk, rfl, hb, HB⟩ := hrel
    by_cases hlt : k < l0.length
    · obtain ⟨ad, A_, c_, hA, x0, x1, x2, hq1, hq2⟩ := at_T27 (Kd.C_below HR.out HB.out) (k : Int) (by omega) (by omega)
      cases hA
      have hxe : rd_T27 l0 (k : Int) = l0.getD k (z27) := by unfold rd_T27; rw [Int.toNat_natCast]
      rw [hxe] at x0 x1 x2 hq1 hq2
      (try simp only [Int.toNat_natCast] at x0 x1 x2 hq1 hq2)
      obtain ⟨x, hx⟩ : ∃ x, l0.getD k (z27) = x := ⟨_, rfl⟩
      rw [hx] at x0 x1 x2 hq1 hq2
      have hmem : x ∈ l0 := by
        rw [← hx, List.getD_eq_getElem?_getD, List.getElem?_eq_getElem hlt, Option.getD_some]
        exact List.getElem_mem hlt
      have C := HF x hmem A_ c_ _ HB.out
      clear hxe hmem
      cases hv : p x with
      | true =>
        have E := Lib.hid (idxP_at hb.out hlt (hx ▸ hv))
        rw [hv] at C
        clear hv hx hb
        obtain ⟨y0, y1, y2⟩ := x
        go_wp2_with ((with_reducible refine C.out.mono ?_); rintro e w' ⟨rfl, hb2⟩)
        go_ret
        rw [E.out]
        exact ⟨rfl, below_step HB.out hb2⟩
      | false =>
        rw [hv] at C
        have hb2 : Aside0 (∀ j, j < k + 1 → p (l0.getD j (z27)) = false) := ⟨fun j hj => by
          rcases Nat.lt_or_ge j k with h1 | h1
          · exact hb.out j h1
          · obtain rfl : j = k := by omega
            rw [hx]; exact hv⟩
        clear hv hx hb
        obtain ⟨y0, y1, y2⟩ := x
        go_wp2_with ((with_reducible refine C.out.mono ?_); rintro e w' ⟨rfl, hb3⟩)
        go_roundw
        case rel => exact ⟨k + 1, by omega, by go_num, hb2, ⟨below_step HB.out hb3⟩⟩
        case measure => simp [intOf]; omega
    · have E := Lib.hid (idxP_none (p := p) (l := l0) fun j hj => hb.out j (by omega))
      go_wp2
      go_ret
      rw [E.out]
      exact ⟨rfl, HB.out⟩
def findI (l : List S27) (task : Int) : Int := idxP (fun j => j.f0 == task) l
theorem enters_find : ∀ args W, (callFunc 41 args).run Try.prog W = .ok (.enter 41 args) W := enters_ Try.func41 (by kernel_rfl) rfl
set_option maxHeartbeats 1000000 in
theorem find1_calls (g : Nat) (task a b : Int) (A : Option Addr) (n c : Nat) (w : World) (hc : w.cell? ⟨g, 0, none⟩ = some (.int .i64 task)) (hg : g < w.heap.size) :
    Calls Try.prog 41 #[.agg #[.int .i64 a, .int .i64 b, .slice A n c], .pointer (some ⟨g, 0, none⟩)] w fun e w' => e = .returned (.bool (a == task)) ∧ Below w.heap.size w w' := by
  have hne : g ≠ w.heap.size := by omega
  go_enter Try.func41, Try.ntmps41
  go_wp2
  go_ret
  exact ⟨rfl, by repeat (first | exact Below.refl _ _ | apply below_alloc | apply pw_below_drewN | apply below_drew1)⟩
theorem box1_at {w W : World} {t : TypeId} {x : Value} (hb : Below (w.alloc (.cells #[x] t)).heap.size (w.alloc (.cells #[x] t)) W) : W.cell? ⟨w.heap.size, 0, none⟩ = some x := pw_cell_below hb ((blk_cell (blk_new w _) 0).trans rfl)
theorem box1_lt {w W : World} {t : TypeId} {x : Value} (hb : Below (w.alloc (.cells #[x] t)).heap.size (w.alloc (.cells #[x] t)) W) : w.heap.size < W.heap.size := by
  have := hb.size
  simp at this
  omega
/-! ### lane_find: function 26 -/
def lane_find.f (l0_0 : List S27) (a0_1 a1 : Int) : Option Int := some (findI l0_0 a1)
set_option maxHeartbeats 4000000 in
theorem lane_find.calls (A0_0 : Option Addr) (c0_0 : Nat) (l0_0 : List (S27)) (a0_1 : Int) (a1 : Int) (r : Int) (w : World) (hr0_0 : Kd.C k27 w A0_0 l0_0.length l0_0) (hc0_0 : l0_0.length ≤ c0_0) (h : lane_find.f l0_0 a0_1 a1 = some r) :
    Calls Try.prog 26 #[.agg #[.slice A0_0 l0_0.length c0_0, .int .i64 a0_1], .int .i64 a1] w fun e w' => e = .returned (.int .i64 r) ∧ Below w.heap.size w w' := by
  obtain rfl := Option.some.inj h
  have C := fun W hb => Lib.hid (indexJob_calls (fun j => j.f0 == a1) 41 #[.pointer (some ⟨(W : World).heap.size, 0, none⟩)] A0_0 c0_0 l0_0 (W.alloc (.cells #[.int .i64 a1] 3)) (Kd.C_alloc (Kd.C_below hr0_0 hb) _) enters_find
    (fun s _ A_ c_ W' hb' => find1_calls W.heap.size a1 s.f0 s.f1 A_ s.f2.length c_ W' (box1_at hb') (box1_lt hb')))
  clear hr0_0 h
  unfold findI
  generalize idxP (fun j : S27 => j.f0 == a1) l0_0 = r at *
  go_enter Try.func26, Try.ntmps26
  go_wp2_with (first | ((with_reducible refine gate_dst (N := 2) rfl ?_); refine box_event ?hg (N := 2) ?hd (cs := #[.slice A0_0 l0_0.length c0_0, .int .i64 a0_1]) (t := 24) ?hr ?_; (case hd => rfl); (case hg => rfl); (case hr => first | (go_simp; done) | (go_simp; rfl)); intro kb hE_ w1 hbox hb; have HB := Lib.hid hb; have k0 : w1.cell? ⟨kb, 0, none⟩ = some (.slice A0_0 l0_0.length c0_0) := (blk_cell hbox 0).trans rfl; have hlt := blk_lt hbox; clear hE_ hbox hb) | (go_at_call 40; refine (C w1 HB.out).out.mono ?_; rintro e w2 ⟨rfl, hb2⟩))
  go_ret
  exact ⟨rfl, below_step (below_step HB.out (below_alloc (Below.refl _ _) _)) hb2⟩
end Go.Proofs.Yteodhffgnkdcfaa.Q
