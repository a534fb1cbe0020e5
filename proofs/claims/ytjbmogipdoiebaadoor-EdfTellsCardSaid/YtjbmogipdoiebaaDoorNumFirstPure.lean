/- Plain facts: the first number that may not be. No memory and no Go in it. -/
import Derived.Test.YtjbmogipdoiebaaDoorQx2
import Derived.Test.YtjbmogipdoiebaaDoorNumBasePure
namespace Go.Proofs.YtjbmogipdoiebaaDoor.Q
open Go.RowKit Go.Proofs.YtjbmogipdoiebaaDoorW.PrintWords Go.Proofs.YtjbmogipdoiebaaDoorW.PrintLast Go.Proofs.YtjbmogipdoiebaaDoorW.PrintMore

theorem badB_iff {n : Int} : badB n = false ↔ 0 ≤ n ∧ n ≤ 1099511627775 := by unfold badB; simp
theorem badB_code' {n : Int} : badB n = true ↔ code n ≠ 0 := by
  rw [Ne, code_ok, ← badB_iff]; simp

theorem firstV_nil : firstV [] = 0 := rfl
theorem firstV_cons (n : Int) (l : List Int) : firstV (n :: l) = if code n = 0 then firstV l else code n := by
  cases hb : badB n with
  | true =>
    have hc : code n ≠ 0 := badB_code'.1 hb
    have e : idxB badB (n :: l) = 0 := by
      unfold idxB
      rw [List.findIdx_cons, hb]
      simp
    unfold firstV
    rw [e, if_neg hc]
    simp [rd, code]
  | false =>
    have hc : code n = 0 := code_ok.2 (badB_iff.1 hb)
    have hf : (n :: l).findIdx badB = l.findIdx badB + 1 := by rw [List.findIdx_cons, hb]; rfl
    rw [if_pos hc]
    by_cases hlt : l.findIdx badB < l.length
    · have e1 : idxB badB (n :: l) = (l.findIdx badB : Int) + 1 := by unfold idxB; rw [hf]; simp [hlt]
      have e2 : idxB badB l = (l.findIdx badB : Int) := by unfold idxB; rw [if_pos hlt]
      have e3 : rd (n :: l) ((l.findIdx badB : Int) + 1) = rd l (l.findIdx badB : Int) := by
        unfold rd
        rw [show ((l.findIdx badB : Int) + 1).toNat = l.findIdx badB + 1 from by omega, Int.toNat_natCast, List.getD_cons_succ]
      unfold firstV
      rw [e1, e2, e3, if_pos (c := 0 ≤ (l.findIdx badB : Int) + 1) (by omega), if_pos (c := 0 ≤ (l.findIdx badB : Int)) (by omega)]
    · have e1 : idxB badB (n :: l) = -1 := by unfold idxB; rw [hf]; simp [hlt]
      have e2 : idxB badB l = -1 := by unfold idxB; rw [if_neg hlt]
      unfold firstV
      rw [e1, e2]
      rfl
theorem firstV_ok {l : List Int} : firstV l = 0 ↔ ∀ x ∈ l, 0 ≤ x ∧ x ≤ 1099511627775 := by
  induction l with
  | nil => simp [firstV_nil]
  | cons n l ih =>
    rw [firstV_cons]
    by_cases h : code n = 0
    · rw [if_pos h, ih]
      have := code_ok.1 h
      simp [this]
    · rw [if_neg h]
      simp only [List.mem_cons, forall_eq_or_imp, ← code_ok]
      simp [h]
theorem first_two (a b : Int) : firstV [a, b] = if code a = 0 then code b else code a := by
  rw [firstV_cons, firstV_cons, firstV_nil]
  by_cases h : code b = 0 <;> simp [h]
theorem first_eq (l : List Int) : num_first.f l = some (firstV l) := rfl

theorem two_ok {a b : Int} (h : firstV [a, b] = 0) : 0 ≤ a ∧ a ≤ 1099511627775 ∧ 0 ≤ b ∧ b ≤ 1099511627775 := by
  have := firstV_ok.1 h
  have h1 := this a (by simp)
  have h2 := this b (by simp)
  omega
end Go.Proofs.YtjbmogipdoiebaaDoor.Q
