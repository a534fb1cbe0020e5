/- Plain facts: the statement NumSubs, as numbers and lists, is true. No memory and no Go in it. -/
import Derived.Test.YtgohgmjfanmbeaaDoorQx5
import Derived.Test.YtgohgmjfanmbeaaDoorAwakePure
import Derived.Test.YtgohgmjfanmbeaaDoorNumRefPure
namespace Go.Proofs.YtgohgmjfanmbeaaDoor.Q
open Go.RowKit Go.Proofs.YtgohgmjfanmbeaaDoorW.PrintWords Go.Proofs.YtgohgmjfanmbeaaDoorW.PrintLast Go.Proofs.YtgohgmjfanmbeaaDoorW.PrintMore

theorem numSubs (a b : Int) : trefoillaw01_NumSubs.f 100 a b = some true := by
  unfold trefoillaw01_NumSubs.f
  rw [awake_eq 100 (by omega)]
  simp only [Option.bind_some, if_true]
  rw [sub_eq, refAll_eq [a, b] (by simp) 100 (by simp)]
  simp only [Option.bind_some]
  unfold subV
  by_cases h : firstV [a, b] = 0
  · obtain ⟨h1, h2, h3, h4⟩ := two_ok h
    rw [if_pos h, if_pos h]
    by_cases hab : a < b
    · rw [if_pos hab, if_pos hab]; rfl
    · rw [if_neg hab, if_neg hab, add_eq _ (by simp) 100 (by simp)]
      have e : addV [b, a - b] = (a, 0) := by
        unfold addV
        have hf : firstV [b, a - b] = 0 := firstV_ok.2 (by intro x hx; simp at hx; rcases hx with rfl | rfl <;> omega)
        have hs : [b, a - b].sum = a := by simp; omega
        rw [if_pos hf, hs, if_pos (by omega)]
      simp [e]
  · rw [if_neg h, if_neg h]
    simp
end Go.Proofs.YtgohgmjfanmbeaaDoor.Q
