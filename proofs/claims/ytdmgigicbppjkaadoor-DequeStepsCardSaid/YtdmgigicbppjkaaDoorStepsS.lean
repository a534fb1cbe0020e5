/- The document's step answers as the plain function says. -/
import Derived.Test.YtdmgigicbppjkaaDoorStepsR
import Derived.Test.YtdmgigicbppjkaaDoorStepsRo
import Derived.Test.YtdmgigicbppjkaaDoorStepsRt
import Derived.Test.YtdmgigicbppjkaaDoorStepsRp
set_option linter.unusedVariables false
set_option linter.unusedSimpArgs false
namespace Go.Proofs.YtdmgigicbppjkaaDoor.Q
open Go.RowKit Go.Proofs.YtdmgigicbppjkaaDoorW.PrintWords Go.Proofs.YtdmgigicbppjkaaDoorW.PrintLast Go.Proofs.YtdmgigicbppjkaaDoorW.PrintMore
attribute [local go_sem] max2_int min2_int max_two min_two max_three min_three max_four min_four   -- for this text's walks alone
theorem over_t {k t b e : Int} (h : overP true k t b e) : (e != 0) = true ∨ ((e != 0) = false ∧ (decide (k < 0) = true ∨ (decide (k < 0) = false ∧ (decide (k > 4) = true ∨ (decide (k > 4) = false ∧ (decide (k > 3) = true ∨ (decide (k > 3) = false ∧ (decide (k > 0) = true ∧ (decide (t < -1) = true ∨ (decide (t < -1) = false ∧ (decide (t > 1099511627775) = true ∨ (decide (t > 1099511627775) = false ∧ (decide (b < -1) = true ∨ (decide (b < -1) = false ∧ decide (b > 1099511627775) = true)))))))))))))) := by
  simp only [overP, ne_eq] at h
  simp only [bne_iff_ne, bne_eq_false_iff_eq, decide_eq_true_eq, decide_eq_false_iff_not, ne_eq]
  omega
theorem over_f {k t b e : Int} (h : overP false k t b e) : (e != 0) = true ∨ ((e != 0) = false ∧ (decide (k < 0) = true ∨ (decide (k < 0) = false ∧ (decide (k > 4) = true ∨ (decide (k > 4) = false ∧ (decide (k > 0) = true ∧ (decide (t < -1) = true ∨ (decide (t < -1) = false ∧ (decide (t > 1099511627775) = true ∨ (decide (t > 1099511627775) = false ∧ (decide (b < -1) = true ∨ (decide (b < -1) = false ∧ decide (b > 1099511627775) = true)))))))))))) := by
  simp only [overP, ne_eq, Bool.false_eq_true, false_and, false_or] at h
  simp only [bne_iff_ne, bne_eq_false_iff_eq, decide_eq_true_eq, decide_eq_false_iff_not, ne_eq]
  omega
theorem ref_step.does (A0_0 : Option Addr) (c0_0 : Nat) (l0_0 : List Int) (tp bt : Int) (s : Bool) (k t b n e o1 o2 : Int) (o3 : Bool) (o4 o5 o6 o7 o8 o9 : Int) (hr : ref_step.r l0_0 tp bt s k t b n e = some (o1, o2, o3, o4, o5, o6, o7, o8, o9)) (w : World) (hr0_0 : Kd.C (Kd.int .i64) w A0_0 l0_0.length l0_0) (hc0_0 : l0_0.length ≤ c0_0) :
    Calls Tryd.prog 11 #[.agg #[.slice A0_0 l0_0.length c0_0, .int .i64 tp, .int .i64 bt], .agg #[.bool s, .int .i64 k, .int .i64 t, .int .i64 b, .int .i64 n, .int .i64 e]] w fun en w' => en = .returned (.tuple #[.agg #[rv A0_0 c0_0 l0_0 o9, .int .i64 o1, .int .i64 o2], .agg #[.bool o3, .int .i64 o4, .int .i64 o5, .int .i64 o6, .int .i64 o7, .int .i64 o8], .int .i64 o9]) ∧ Below w.heap.size w w' := by
  unfold ref_step.r at hr
  obtain ⟨x, hx, hr⟩ := Option.bind_eq_some_iff.mp hr
  cases x with
  | false =>
    rw [if_neg (by decide)] at hr
    obtain ⟨rfl, rfl, rfl, rfl, rfl, rfl, rfl, rfl, rfl⟩ := nine hr
    exact rstep_form A0_0 c0_0 l0_0 _ _ s _ _ _ _ _ hx w hr0_0 hc0_0
  | true =>
    rw [if_pos rfl] at hr
    by_cases ov : overP s k t b e
    · rw [if_pos ov] at hr
      obtain ⟨rfl, rfl, rfl, rfl, rfl, rfl, rfl, rfl, rfl⟩ := nine hr
      cases s with
      | true => exact rstep_over_thief A0_0 c0_0 l0_0 _ _ _ _ _ _ _ hx (over_t ov) w hr0_0 hc0_0
      | false => exact rstep_over_owner A0_0 c0_0 l0_0 _ _ _ _ _ _ _ hx (over_f ov) w hr0_0 hc0_0
    · rw [if_neg ov] at hr
      obtain ⟨⟨r1, r2, r3, r4, r5, r6, r7⟩, hd, hr⟩ := Option.bind_eq_some_iff.mp hr
      obtain ⟨y, hy, hr⟩ := Option.bind_eq_some_iff.mp hr
      have he : (e != 0) = false := by
        simp only [bne_eq_false_iff_eq]; exact Classical.byContradiction fun h => ov (.inl h)
      have hk0 : decide (k < 0) = false := decide_eq_false fun h => ov (.inr (.inl h))
      have hk4 : decide (k > 4) = false := decide_eq_false fun h => ov (.inr (.inr (.inl h)))
      have hw : decide (k > 0) = false ∨ (decide (t < -1) = false ∧ decide (t > 1099511627775) = false ∧ decide (b < -1) = false ∧ decide (b > 1099511627775) = false) := by
        by_cases hp : k > 0
        · refine .inr ⟨decide_eq_false fun h => ?_, decide_eq_false fun h => ?_, decide_eq_false fun h => ?_, decide_eq_false fun h => ?_⟩
          · exact ov (.inr (.inr (.inr (.inr ⟨hp, .inl h⟩))))
          · exact ov (.inr (.inr (.inr (.inr ⟨hp, .inr (.inl h)⟩))))
          · exact ov (.inr (.inr (.inr (.inr ⟨hp, .inr (.inr (.inl h))⟩))))
          · exact ov (.inr (.inr (.inr (.inr ⟨hp, .inr (.inr (.inr h))⟩))))
        · exact .inl (decide_eq_false hp)
      cases s with
      | true =>
        rw [if_pos rfl] at hd
        have hk3 : decide (k > 3) = false := decide_eq_false fun h => ov (.inr (.inr (.inr (.inl ⟨rfl, h⟩))))
        cases y with
        | false =>
          rw [if_neg (by decide)] at hr
          obtain ⟨rfl, rfl, rfl, rfl, rfl, rfl, rfl, rfl, rfl⟩ := nine hr
          exact rstep_late_thief A0_0 c0_0 l0_0 _ _ _ _ _ _ _ _ _ _ _ _ _ _ hx he hk0 hk4 hk3 hw hd hy w hr0_0 hc0_0
        | true =>
          rw [if_pos rfl] at hr
          obtain ⟨rfl, rfl, rfl, rfl, rfl, rfl, rfl, rfl, rfl⟩ := nine hr
          exact rstep_ok_thief A0_0 c0_0 l0_0 _ _ _ _ _ _ _ _ _ _ _ _ _ _ hx he hk0 hk4 hk3 hw hd hy w hr0_0 hc0_0
      | false =>
        rw [if_neg (by decide)] at hd
        cases y with
        | false =>
          rw [if_neg (by decide)] at hr
          obtain ⟨rfl, rfl, rfl, rfl, rfl, rfl, rfl, rfl, rfl⟩ := nine hr
          exact rstep_late_owner A0_0 c0_0 l0_0 _ _ _ _ _ _ _ _ _ _ _ _ _ _ hx he hk0 hk4 hw hd hy w hr0_0 hc0_0
        | true =>
          rw [if_pos rfl] at hr
          obtain ⟨rfl, rfl, rfl, rfl, rfl, rfl, rfl, rfl, rfl⟩ := nine hr
          exact rstep_ok_owner A0_0 c0_0 l0_0 _ _ _ _ _ _ _ _ _ _ _ _ _ _ hx he hk0 hk4 hw hd hy w hr0_0 hc0_0
end Go.Proofs.YtdmgigicbppjkaaDoor.Q
