-- PRINTED by print.py (a twelfth state) out of the translation. Not trusted: Lean checks it.
import Derived.Test.YtjbmogipdoiebaaDoorQx0
import Derived.Test.YtjbmogipdoiebaaDoorQx4
namespace Go.Proofs.YtjbmogipdoiebaaDoor.Q
open Go.RowKit Go.Proofs.YtjbmogipdoiebaaDoorW.PrintWords Go.Proofs.YtjbmogipdoiebaaDoorW.PrintLast Go.Proofs.YtjbmogipdoiebaaDoorW.PrintMore
attribute [local go_sem] max2_int min2_int max_two min_two max_three min_three max_four min_four   -- for this text's walks alone
set_option linter.unusedVariables false
set_option linter.unusedSimpArgs false

-- BREAK
set_option maxHeartbeats 2000000 in
/-- at, by whatever function of shapes and a time. -/
theorem at_calls (f : FuncId) (A0 : Option Addr) (c0 : Nat) (l0 : List S34) (t c u : Int) (w : World) (hr : Kd.C k34 w A0 l0.length l0) (hcap : l0.length ≤ c0) (hc : edf_Check.f l0 = some c) (hTab : TabOK w)
    (he : ∀ args W, (callFunc f args).run Tryd.prog W = .ok (.enter f args) W)
    (hf : c = 0 → 0 ≤ t → t ≤ 1099511627775 → ∀ W : World, Below w.heap.size w W → Calls Tryd.prog f #[.slice A0 l0.length c0, .int .i64 t] W fun e w' => e = .returned (.int .i64 u) ∧ Below W.heap.size W w') :
    Calls Tryd.prog 21 #[.slice A0 l0.length c0, .int .i64 t, .func (.func f) #[] #[]] w fun e w' => e = .returned (if c = 0 then (if 0 ≤ t ∧ t ≤ 1099511627775 then .tuple #[.int .i64 u, .int .i64 0] else .tuple #[.int .i64 0, .int .i64 151]) else .tuple #[.int .i64 0, .int .i64 c]) ∧ Below w.heap.size w w' := by
  have C1 := Lib.hid (edf_Check.calls A0 c0 l0 c w hr hcap hc hTab)
  clear hr hcap hc hTab
  by_cases h0 : c = 0
  · rw [if_pos h0]
    have h0b : (c != 0) = false := by simp [h0]
    have hf := hf h0
    clear h0
    by_cases ht : 0 ≤ t ∧ t ≤ 1099511627775
    · rw [if_pos ht]
      have HF := fun W hW => Lib.hid (hf ht.1 ht.2 W hW)
      have t1 : decide (t < 0) = false := decide_eq_false (by omega)
      have t2 : decide (1099511627775 < t) = false := decide_eq_false (by omega)
      clear ht hf
      go_enter Tryd.func21, Tryd.ntmps21
      go_wp2_with (first | (go_at_call 14; refine C1.out.mono ?_; rintro e w1 ⟨rfl, hb⟩) | ((with_reducible refine (HF _ hb).out.mono ?_); rintro e w2 ⟨rfl, hb2⟩))
      go_ret2
      exact ⟨rfl, below_step hb hb2⟩
    · rw [if_neg ht]
      by_cases t0 : t < 0
      · have t1 : decide (t < 0) = true := decide_eq_true t0
        clear ht hf t0
        go_enter Tryd.func21, Tryd.ntmps21
        go_wp2_with (go_at_call 14; refine C1.out.mono ?_; rintro e w1 ⟨rfl, hb⟩)
        go_ret2
        exact ⟨rfl, hb⟩
      · have t1 : decide (t < 0) = false := decide_eq_false t0
        have t2 : decide (1099511627775 < t) = true := decide_eq_true (by omega)
        clear ht hf t0
        go_enter Tryd.func21, Tryd.ntmps21
        go_wp2_with (go_at_call 14; refine C1.out.mono ?_; rintro e w1 ⟨rfl, hb⟩)
        go_ret2
        exact ⟨rfl, hb⟩
  · rw [if_neg h0]
    have h0b : (c != 0) = true := by simp [h0]
    clear h0 hf
    go_enter Tryd.func21, Tryd.ntmps21
    go_wp2_with (go_at_call 14; refine C1.out.mono ?_; rintro e w1 ⟨rfl, hb⟩)
    go_ret2
    exact ⟨rfl, hb⟩
/-- What at tells, of what Check and the function tell. -/
def atV (c : Option Int) (t : Int) (u : Option Int) : Option (Int × Int) := c.bind fun c => if c = 0 then (if 0 ≤ t ∧ t ≤ 1099511627775 then u.bind fun r => some (r, 0) else some (0, 151)) else some (0, c)

-- NOT PRINTED: function 21 (edf_at)

end Go.Proofs.YtjbmogipdoiebaaDoor.Q
