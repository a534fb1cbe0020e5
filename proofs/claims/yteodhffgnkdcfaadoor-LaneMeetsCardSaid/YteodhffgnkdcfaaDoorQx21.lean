import Derived.Test.YteodhffgnkdcfaaDoorQx0
import Derived.Test.YteodhffgnkdcfaaDoorQx4
import Derived.Test.YteodhffgnkdcfaaDoorQx5
namespace Go.Proofs.YteodhffgnkdcfaaDoor.Q
open Go.RowKit Go.Proofs.YteodhffgnkdcfaaDoorW.PrintWords Go.Proofs.YteodhffgnkdcfaaDoorW.PrintLast Go.Proofs.YteodhffgnkdcfaaDoorW.PrintMore
attribute [local go_sem] max2_int min2_int max_two min_two max_three min_three max_four min_four
set_option linter.unusedVariables false
set_option linter.unusedSimpArgs false
def e_idxP {α : Type} (p : α → Bool) (l : List α) : Int := if (l.findIdx p) < l.length then ((l.findIdx p : Nat) : Int) else -1
theorem e_idxP_at {α : Type} {d : α} {p : α → Bool} {l : List α} {k : Nat} (h : ∀ j, j < k → p (l.getD j d) = false) (hk : k < l.length) (hb : p (l.getD k d) = true) : e_idxP p l = k := by
  have e : l.findIdx p = k := by
    refine (List.findIdx_eq hk).2 ⟨?_, fun j hj => ?_⟩
    · rw [List.getD_eq_getElem?_getD, List.getElem?_eq_getElem hk, Option.getD_some] at hb
      exact hb
    · have := h j hj
      rw [List.getD_eq_getElem?_getD, List.getElem?_eq_getElem (by omega), Option.getD_some] at this
      exact this
  unfold e_idxP
  rw [e, if_pos hk]
theorem e_idxP_none {α : Type} {d : α} {p : α → Bool} {l : List α} (h : ∀ j, j < l.length → p (l.getD j d) = false) : e_idxP p l = -1 := by
  have e : l.findIdx p = l.length := List.findIdx_eq_length.2 fun x hx => by
    obtain ⟨j, hj, rfl⟩ := List.mem_iff_getElem.1 hx
    have := h j hj
    rwa [List.getD_eq_getElem?_getD, List.getElem?_eq_getElem hj, Option.getD_some] at this
  unfold e_idxP
  rw [e, if_neg (by omega)]
theorem e_idxP_any {α : Type} (p : α → Bool) (l : List α) : decide (0 ≤ e_idxP p l) = l.any p := by
  unfold e_idxP
  by_cases h : l.findIdx p < l.length
  · rw [if_pos h]
    have h1 : p l[l.findIdx p] = true := List.findIdx_getElem
    have : l.any p = true := List.any_eq_true.2 ⟨_, List.getElem_mem h, h1⟩
    rw [this]; simp
  · rw [if_neg h]
    have e : l.findIdx p = l.length := Nat.le_antisymm List.findIdx_le_length (by omega)
    have h2 := List.findIdx_eq_length.1 e
    have : l.any p = false := List.any_eq_false.2 (fun x hx => by simp [h2 x hx])
    rw [this]; rfl
theorem e_kd_len {α : Type} {d : Kd α} {w : World} {A : Option Addr} {n : Nat} {l : List α} (h : Kd.C d w A n l) : n ≤ 9223372036854775807 := h.2.1
set_option maxHeartbeats 2000000 in
theorem indexShape_calls (p : S29 → Bool) (f : FuncId) (A0 : Option Addr) (c0 : Nat) (l0 : List S29) (w : World) (hr : Kd.C k29 w A0 l0.length l0)
    (he : ∀ args W, (callFunc f args).run Tryd.prog W = .ok (.enter f args) W)
    (hf : ∀ s ∈ l0, ∀ (W : World), Below w.heap.size w W → Calls Tryd.prog f #[shapeV s] W fun e w' => e = .returned (.bool (p s)) ∧ Below W.heap.size W w') :
    Calls Tryd.prog 50 #[.slice A0 l0.length c0, .func (.func f) #[] #[]] w fun e w' => e = .returned (.int .i64 (e_idxP p l0)) ∧ Below w.heap.size w w' := by
  have hl := e_kd_len hr
  have HR := Aside0.mk hr
  have HF := fun s hs W h => Lib.hid (hf s hs W h)
  clear hr hf
  go_enter Tryd.func50, Tryd.ntmps50
  go_wp2
  go_loopw [8] (fun i w' => ∃ k : Nat, k ≤ l0.length ∧ i = .int .i64 k ∧ Aside0 (∀ j, j < k → p (l0.getD j z29) = false) ∧ Aside0 (Below w.heap.size w w')) (fun i _ => l0.length - (intOf i).toNat)
  case atStart => exact ⟨0, Nat.zero_le _, rfl, ⟨fun j hj => absurd hj (by omega)⟩, ⟨Below.refl _ _⟩⟩
  case round =>
    obtain ⟨k, hk, rfl, hb, HB⟩ := hrel
    by_cases hlt : k < l0.length
    · obtain ⟨ad, hA, x0, x1, x2, x3, x4⟩ := at_T29 (Kd.C_below HR.out HB.out) (k : Int) (by omega) (by omega)
      cases hA
      have hxe : rd_T29 l0 (k : Int) = l0.getD k z29 := by unfold rd_T29; rw [Int.toNat_natCast]
      rw [hxe] at x0 x1 x2 x3 x4
      rw [Int.toNat_natCast] at x0 x1 x2 x3 x4
      obtain ⟨x, hx⟩ : ∃ x, l0.getD k z29 = x := ⟨_, rfl⟩
      rw [hx] at x0 x1 x2 x3 x4
      have hmem : x ∈ l0 := by
        rw [← hx, List.getD_eq_getElem?_getD, List.getElem?_eq_getElem hlt, Option.getD_some]
        exact List.getElem_mem hlt
      have C := HF x hmem _ HB.out
      unfold shapeV at C
      clear hxe hmem
      cases hv : p x with
      | true =>
        have E := Lib.hid (e_idxP_at hb.out hlt (hx ▸ hv))
        rw [hv] at C
        clear hv hx hb
        obtain ⟨y0, y1, y2, y3, y4⟩ := x
        go_wp2_with ((with_reducible refine C.out.mono ?_); rintro e w' ⟨rfl, hb2⟩)
        go_ret
        rw [E.out]
        exact ⟨rfl, below_step HB.out hb2⟩
      | false =>
        rw [hv] at C
        have hb2 : Aside0 (∀ j, j < k + 1 → p (l0.getD j z29) = false) := ⟨fun j hj => by
          rcases Nat.lt_or_ge j k with h1 | h1
          · exact hb.out j h1
          · obtain rfl : j = k := by omega
            rw [hx]; exact hv⟩
        clear hv hx hb
        obtain ⟨y0, y1, y2, y3, y4⟩ := x
        go_wp2_with ((with_reducible refine C.out.mono ?_); rintro e w' ⟨rfl, hb3⟩)
        go_roundw
        case rel => exact ⟨k + 1, by omega, by go_num, hb2, ⟨below_step HB.out hb3⟩⟩
        case measure => simp [intOf]; omega
    · have E := Lib.hid (e_idxP_none (p := p) (l := l0) fun j hj => hb.out j (by omega))
      go_wp2
      go_ret
      rw [E.out]
      exact ⟨rfl, HB.out⟩
set_option maxHeartbeats 1000000 in
theorem containsShape_calls (p : S29 → Bool) (f : FuncId) (A0 : Option Addr) (c0 : Nat) (l0 : List S29) (w : World) (hr : Kd.C k29 w A0 l0.length l0)
    (he : ∀ args W, (callFunc f args).run Tryd.prog W = .ok (.enter f args) W)
    (hf : ∀ s ∈ l0, ∀ (W : World), Below w.heap.size w W → Calls Tryd.prog f #[shapeV s] W fun e w' => e = .returned (.bool (p s)) ∧ Below W.heap.size W w') :
    Calls Tryd.prog 31 #[.slice A0 l0.length c0, .func (.func f) #[] #[]] w fun e w' => e = .returned (.bool (l0.any p)) ∧ Below w.heap.size w w' := by
  have C := Lib.hid (indexShape_calls p f A0 c0 l0 w hr he hf)
  have E := Lib.hid (e_idxP_any p l0)
  clear hr hf
  generalize e_idxP p l0 = j at *
  go_enter Tryd.func31, Tryd.ntmps31
  go_wp2_with (go_at_call 50; refine C.out.mono ?_; rintro e w' ⟨rfl, hb⟩)
  go_ret
  rw [← E.out]
  exact ⟨rfl, hb⟩
/-! ### edf_Check: function 14 -/
def oddShape (s : S29) : Option Bool := edf_Check_1.f s.f0 s.f1 s.f2 s.f3 s.f4
def oddB (s : S29) : Bool := (oddShape s).getD false
theorem e_enters_odd : ∀ args W, (callFunc 28 args).run Tryd.prog W = .ok (.enter 28 args) W := enters_ Tryd.func28 (by kernel_rfl) rfl
def edf_Check.f (l0 : List S29) : Option Int := if 8 < l0.length then some 150 else if (∀ s ∈ l0, oddShape s = some (oddB s)) then some (if l0.any oddB then 150 else 0) else none
set_option maxHeartbeats 2000000 in
theorem edf_Check.calls (A0 : Option Addr) (c0 : Nat) (l0 : List (S29)) (r : Int) (w : World) (hr0 : Kd.C k29 w A0 l0.length l0) (hc0 : l0.length ≤ c0) (h : edf_Check.f l0 = some r) (hTab : TabOK w := by first | exact hTab | exact TabOK.below hTab HB.out | exact TabOK.drewN hTab _ | exact TabOK.below hTab (by repeat (first | (with_reducible first | exact HB.out | apply below_alloc | apply pw_below_drewN | apply below_drew1 | refine below_set ?_ (Aside0.out (by assumption))) | exact HB.out)) | (repeat (first | exact hTab | apply TabOK.drewN | apply TabOK.drew | apply TabOK.alloc); done)) :
    Calls Tryd.prog 14 #[.slice A0 l0.length c0] w fun e w' => e = .returned (.int .i64 r) ∧ Below w.heap.size w w' := by
  unfold edf_Check.f at h
  by_cases h8 : 8 < l0.length
  · rw [if_pos h8] at h
    obtain rfl := Option.some.inj h
    have h8b : decide (8 < (l0.length : Int)) = true := decide_eq_true (by omega)
    have h8c : decide (8 < l0.length) = true := decide_eq_true h8
    clear h h8
    go_enter Tryd.func14, Tryd.ntmps14
    go_wp2
    go_ret
    exact ⟨rfl, Below.refl _ _⟩
  · rw [if_neg h8] at h
    have h8b : decide (8 < (l0.length : Int)) = false := decide_eq_false (by omega)
    have h8c : decide (8 < l0.length) = false := decide_eq_false h8
    by_cases ha : ∀ s ∈ l0, oddShape s = some (oddB s)
    · rw [if_pos ha] at h
      have C := Lib.hid (containsShape_calls oddB 28 A0 c0 l0 w hr0 e_enters_odd (fun s hs W hb => edf_Check_1.calls s.f0 s.f1 s.f2 s.f3 s.f4 (oddB s) W (ha s hs) (hTab.below hb)))
      have H := Lib.hid h
      clear ha h h8 hr0 hc0
      generalize l0.any oddB = v at *
      cases v with
      | true =>
        go_enter Tryd.func14, Tryd.ntmps14
        go_wp2_with (go_at_call 31; refine C.out.mono ?_; rintro e w' ⟨rfl, hb⟩)
        go_ret
        exact ⟨e_ret_int_ (Option.some.inj H.out), hb⟩
      | false =>
        go_enter Tryd.func14, Tryd.ntmps14
        go_wp2_with (go_at_call 31; refine C.out.mono ?_; rintro e w' ⟨rfl, hb⟩)
        go_ret
        exact ⟨e_ret_int_ (Option.some.inj H.out), hb⟩
    · rw [if_neg ha] at h; cases h
end Go.Proofs.YteodhffgnkdcfaaDoor.Q
