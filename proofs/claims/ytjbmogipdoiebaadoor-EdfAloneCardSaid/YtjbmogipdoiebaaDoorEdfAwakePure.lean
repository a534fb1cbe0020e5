/- Plain facts: the chapter's example is as it should be. No memory and no Go in it. -/
import Derived.Test.YtjbmogipdoiebaaDoorQx6
import Derived.Test.YtjbmogipdoiebaaDoorEdfRefPure
set_option linter.unusedVariables false
namespace Go.Proofs.YtjbmogipdoiebaaDoor.Q
open Go.RowKit Go.Proofs.YtjbmogipdoiebaaDoorW.PrintWords Go.Proofs.YtjbmogipdoiebaaDoorW.PrintLast Go.Proofs.YtjbmogipdoiebaaDoorW.PrintMore

theorem awake_30 : trefoillaw15_awake.f 30 = some true := by decide +kernel
theorem awake_eq (k : Nat) (hk : 30 ≤ k) : trefoillaw15_awake.f k = some true := by
  obtain ⟨d, rfl⟩ : ∃ d, k = 30 + d := ⟨k - 30, by omega⟩
  clear hk
  induction d with
  | zero => exact awake_30
  | succ d ih => exact trefoillaw15_awake.mono (30 + d) _ ih
theorem own_eq (l : List S34) (hl : l.length ≤ 20) : trefoillaw15_Own.f l = some l := by
  unfold trefoillaw15_Own.f
  simp only [Option.bind_some, List.length_nil, Nat.zero_add, List.nil_append]
  rw [if_pos (by omega)]
theorem demandV_eq (l : List S34) (t : Int) : (¬ okL l → edf_Demand.f l t = some (0, 150)) ∧ (okL l → ¬ (0 ≤ t ∧ t ≤ 1099511627775) → edf_Demand.f l t = some (0, 151)) ∧ (okL l → 0 ≤ t → t ≤ 1099511627775 → edf_Demand.f l t = some (D l t, 0)) := by
  have e := atV_eq l t (edf_demand.f l t) (D l t) (fun h h0 h1 => demand_eq h t h0 (by omega))
  unfold edf_Demand.f
  rw [e]
  refine ⟨fun h => by rw [if_neg h], fun h ht => by rw [if_pos h, if_neg ht], fun h h0 h1 => by rw [if_pos h, if_pos ⟨h0, h1⟩]⟩
theorem blockV_eq (l : List S34) (t : Int) : (¬ okL l → edf_Block.f l t = some (0, 150)) ∧ (okL l → ¬ (0 ≤ t ∧ t ≤ 1099511627775) → edf_Block.f l t = some (0, 151)) ∧ (okL l → 0 ≤ t → t ≤ 1099511627775 → edf_Block.f l t = some (B l t, 0)) := by
  have e := atV_eq l t (edf_block.f l t) (B l t) (fun _ _ _ => rfl)
  unfold edf_Block.f
  rw [e]
  refine ⟨fun h => by rw [if_neg h], fun h ht => by rw [if_pos h, if_neg ht], fun h h0 h1 => by rw [if_pos h, if_pos ⟨h0, h1⟩]⟩
end Go.Proofs.YtjbmogipdoiebaaDoor.Q
