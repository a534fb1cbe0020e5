/- Plain facts: the statement NumQuotients, as numbers and lists, is true. No memory and no Go in it. -/
import Derived.Test.YtgohgmjfanmbeaaDoorQx6
import Derived.Test.YtgohgmjfanmbeaaDoorAwakePure
namespace Go.Proofs.YtgohgmjfanmbeaaDoor.Q
open Go.RowKit Go.Proofs.YtgohgmjfanmbeaaDoorW.PrintWords Go.Proofs.YtgohgmjfanmbeaaDoorW.PrintLast Go.Proofs.YtgohgmjfanmbeaaDoorW.PrintMore

theorem numQuotients (a b : Int) : trefoillaw01_NumQuotients.f 100 a b = some true := by
  unfold trefoillaw01_NumQuotients.f
  rw [awake_eq 100 (by omega)]
  simp only [Option.bind_some, if_true]
  rw [down_eq, up_eq]
  simp only [Option.bind_some]
  unfold downV upV
  by_cases h : firstV [a, b] = 0
  · obtain ⟨h1, h2, h3, h4⟩ := two_ok h
    rw [if_pos h, if_pos h]
    by_cases hb : b = 0
    · rw [if_pos hb, if_pos hb]; rfl
    · rw [if_neg hb, if_neg hb]
      simp only [if_true]
      rw [mul_eq]
      have hq0 : 0 ≤ a / b := Int.ediv_nonneg h1 h3
      have hq1 : a / b ≤ a := Int.ediv_le_self _ h1
      have hm : a / b * b + a % b = a := by rw [Int.mul_comm]; exact Int.mul_ediv_add_emod a b
      have hr0 : 0 ≤ a % b := Int.emod_nonneg _ hb
      have hr1 : a % b < b := Int.emod_lt_of_pos _ (by omega)
      have hf : firstV [a / b, b] = 0 := firstV_ok.2 (by intro x hx; simp at hx; rcases hx with rfl | rfl <;> omega)
      have e : mulV (a / b) b = (a / b * b, 0) := by
        unfold mulV
        rw [if_pos hf, if_pos (by omega)]
      have eu : (a + (b - 1)) / b = if a % b = 0 then a / b else a / b + 1 := by
        by_cases hz : a % b = 0
        · rw [if_pos hz]
          have e3 : a + (b - 1) = (b - 1) + a / b * b := by omega
          rw [e3, Int.add_mul_ediv_right _ _ hb, Int.ediv_eq_zero_of_lt (by omega) (by omega)]
          omega
        · rw [if_neg hz]
          have e3 : a + (b - 1) = (a % b - 1) + (a / b + 1) * b := by rw [Int.add_mul]; omega
          rw [e3, Int.add_mul_ediv_right _ _ hb, Int.ediv_eq_zero_of_lt (by omega) (by omega)]
          omega
      rw [e, eu]
      simp only [Option.bind_some, if_true]
      generalize a / b * b = p at *
      rw [if_pos (by omega), w64 (by omega) (by omega), if_pos (by omega)]
      by_cases hz : a % b = 0
      · rw [if_pos hz, if_pos (by omega), if_pos rfl]
      · rw [if_neg hz, if_neg (by omega), if_pos (by omega), w64 (by omega) (by omega)]
        simp
  · rw [if_neg h, if_neg h]
    simp [h]
end Go.Proofs.YtgohgmjfanmbeaaDoor.Q
