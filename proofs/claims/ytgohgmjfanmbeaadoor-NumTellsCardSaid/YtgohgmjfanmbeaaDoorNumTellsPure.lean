/- Plain facts: the statement NumTells, as numbers and lists, is true. No memory and no Go in it. -/
import Derived.Test.YtgohgmjfanmbeaaDoorQx4
import Derived.Test.YtgohgmjfanmbeaaDoorAwakePure
import Derived.Test.YtgohgmjfanmbeaaDoorNumRefPure
namespace Go.Proofs.YtgohgmjfanmbeaaDoor.Q
open Go.RowKit Go.Proofs.YtgohgmjfanmbeaaDoorW.PrintWords Go.Proofs.YtgohgmjfanmbeaaDoorW.PrintLast Go.Proofs.YtgohgmjfanmbeaaDoorW.PrintMore

theorem numTells (l : List Int) (a b : Int) : trefoillaw01_NumTells.f 100 l a b = some true := by
  unfold trefoillaw01_NumTells.f
  rw [awake_eq 100 (by omega)]
  simp only [Option.bind_some, if_true]
  by_cases hl : (l.length : Int) > 60
  · rw [decide_eq_true hl]
    simp only [trefoillaw01_NumTells.j0]
    rw [if_pos True.intro, awake_eq 99 (by omega)]
    rfl
  · rw [decide_eq_false hl]
    simp only [trefoillaw01_NumTells.j0]
    rw [if_neg (by decide)]
    simp only [Option.bind_some, List.nil_append, List.length_nil, Nat.zero_add]
    rw [if_pos (by omega), add_eq l (by omega) 99 (by omega), refAdd_eq l (by omega) 99 (by omega), mul_eq, refMul_eq a b 99 (by omega), down_eq, refDown_eq a b 99 (by omega), two_eq, refTwo_eq a 99 (by omega), check_eq, refCheck_eq]
    simp
end Go.Proofs.YtgohgmjfanmbeaaDoor.Q
