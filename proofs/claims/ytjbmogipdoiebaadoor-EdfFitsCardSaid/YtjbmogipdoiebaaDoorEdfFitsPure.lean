/- Plain facts: the statement EdfFits, as numbers and lists, is true. No memory and no Go in it. -/
import Derived.Test.YtjbmogipdoiebaaDoorQx11
import Derived.Test.YtjbmogipdoiebaaDoorEdfAwakePure
namespace Go.Proofs.YtjbmogipdoiebaaDoor.Q
open Go.RowKit Go.Proofs.YtjbmogipdoiebaaDoorW.PrintWords Go.Proofs.YtjbmogipdoiebaaDoorW.PrintLast Go.Proofs.YtjbmogipdoiebaaDoorW.PrintMore
theorem edfFits (K : Nat) (hK : 50000 < K) (l : List S34) : trefoillaw15_EdfFits.f K l = some true := by
  obtain ⟨k, rfl⟩ : ∃ k, K = k + 1 := ⟨K - 1, by omega⟩
  unfold trefoillaw15_EdfFits.f
  rw [awake_eq _ (by omega)]
  simp only [Option.bind_some, if_true]
  by_cases hl : (l.length : Int) > 20
  · rw [decide_eq_true hl]
    simp only [trefoillaw15_EdfFits.j0]
    rw [if_pos True.intro, awake_eq _ (by omega)]
    rfl
  · rw [decide_eq_false hl]
    simp only [trefoillaw15_EdfFits.j0]
    rw [if_neg (by decide), own_eq l (by omega)]
    simp only [Option.bind_some]
    rw [fits_eq l k (by omega), refFits_eq l (by omega) k (by omega)]
    simp
end Go.Proofs.YtjbmogipdoiebaaDoor.Q
