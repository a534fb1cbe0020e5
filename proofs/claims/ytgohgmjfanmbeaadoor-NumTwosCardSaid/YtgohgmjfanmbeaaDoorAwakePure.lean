/- Plain facts: the chapter's examples are as they should be. No memory and no Go in it. -/
import Derived.Test.YtgohgmjfanmbeaaDoorQx2
import Derived.Test.YtgohgmjfanmbeaaDoorNumPure
namespace Go.Proofs.YtgohgmjfanmbeaaDoor.Q
open Go.RowKit Go.Proofs.YtgohgmjfanmbeaaDoorW.PrintWords Go.Proofs.YtgohgmjfanmbeaaDoorW.PrintLast Go.Proofs.YtgohgmjfanmbeaaDoorW.PrintMore

theorem awake_eq (k : Nat) (hk : 3 < k) : trefoillaw01_awake.f k = some true := by
  unfold trefoillaw01_awake.f
  rw [down_eq, up_eq, add_eq _ (by simp) k (by simp; omega), add_eq _ (by simp) k (by simp; omega), mul_eq, sub_eq, two_eq, check_eq, check_eq]
  have v1 : downV 7 2 = (3, 0) := by decide +kernel
  have v2 : upV 7 2 = (4, 0) := by decide +kernel
  have v3 : addV [549755813888, 549755813888] = (0, 11) := by decide +kernel
  have v4 : addV [1, 2, 3] = (6, 0) := by decide +kernel
  have v5 : mulV 6 7 = (42, 0) := by decide +kernel
  have v6 : subV 5 3 = (2, 0) := by decide +kernel
  have v7 : twoV 8 = (3, true) := by decide +kernel
  have v8 : code (-1) = 10 := by decide
  have v9 : code 1 = 0 := by decide
  rw [v1, v2, v3, v4, v5, v6, v7, v8, v9]
  rfl
end Go.Proofs.YtgohgmjfanmbeaaDoor.Q
