/- Plain facts: the chapter's example is as it should be. No memory and no Go in it. -/
import Derived.Test.YtdmgigicbppjkaaDoorQx7
import Derived.Test.YtdmgigicbppjkaaDoorDeqPure
set_option linter.unusedVariables false
namespace Go.Proofs.YtdmgigicbppjkaaDoor.Q
open Go.RowKit Go.Proofs.YtdmgigicbppjkaaDoorW.PrintWords Go.Proofs.YtdmgigicbppjkaaDoorW.PrintLast Go.Proofs.YtdmgigicbppjkaaDoorW.PrintMore
theorem qawake_30 : trefoillaw12_awake.f 30 = some true := by decide +kernel
theorem qawake_eq (k : Nat) (hk : 80 ≤ k) : trefoillaw12_awake.f k = some true := by
  obtain ⟨d, rfl⟩ : ∃ d, k = 30 + d := ⟨k - 30, by omega⟩
  clear hk
  induction d with
  | zero => exact qawake_30
  | succ d ih => exact trefoillaw12_awake.mono (30 + d) _ ih
end Go.Proofs.YtdmgigicbppjkaaDoor.Q
