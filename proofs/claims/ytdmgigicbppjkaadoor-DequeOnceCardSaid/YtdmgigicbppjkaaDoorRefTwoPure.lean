/- Plain facts: the reference's power of two. No memory and no Go in it. -/
import Derived.Test.YtdmgigicbppjkaaDoorQx9
import Derived.Test.YtdmgigicbppjkaaDoorNumBasePure
namespace Go.Proofs.YtdmgigicbppjkaaDoor.Q
open Go.RowKit Go.Proofs.YtdmgigicbppjkaaDoorW.PrintWords Go.Proofs.YtdmgigicbppjkaaDoorW.PrintLast Go.Proofs.YtdmgigicbppjkaaDoorW.PrintMore

theorem refTwo_l0 (n : Int) (d : Nat) : ∀ (k j : Nat), j + d = 40 → d < k → (∀ i : Nat, i < j → (2 : Int) ^ i ≠ n) → trefoilref01_Two.l0 k n (2 ^ j) (j : Int) = some (twoV n) := by
  induction d with
  | zero =>
    intro k j hj hk hno
    obtain ⟨k, rfl⟩ : ∃ m, k = m + 1 := ⟨k - 1, by omega⟩
    simp only [trefoilref01_Two.l0]
    rw [if_neg (by omega), twoV_no (fun i hi => hno i (by omega))]
  | succ d ih =>
    intro k j hj hk hno
    obtain ⟨k, rfl⟩ : ∃ m, k = m + 1 := ⟨k - 1, by omega⟩
    simp only [trefoilref01_Two.l0]
    rw [if_pos (by omega)]
    by_cases he : (2 : Int) ^ j = n
    · rw [if_pos he, ← he, twoV_pow j (by omega)]
    · rw [if_neg he, ← pow_succ_int]
      have hb : (2 : Int) ^ (j + 1) ≤ 1099511627776 := by
        have h1 : 2 ^ (j + 1) ≤ 2 ^ 40 := Nat.pow_le_pow_right (by decide) (by omega)
        have h2 : ((2 ^ (j + 1) : Nat) : Int) = (2 : Int) ^ (j + 1) := by simp
        rw [show 2 ^ 40 = 1099511627776 from by decide] at h1
        rw [← h2]
        exact Int.ofNat_le.2 h1
      have hp := pow_pos_int (j + 1)
      rw [w64 (by omega) (by omega), w64 (by omega) (by omega)]
      have := ih k (j + 1) (by omega) (by omega) (fun i hi => by
        rcases Nat.lt_or_ge i j with h1 | h1
        · exact hno i h1
        · obtain rfl : i = j := by omega
          exact he)
      rw [show ((j + 1 : Nat) : Int) = (j : Int) + 1 from by omega] at this
      exact this
theorem refTwo_eq (n : Int) (k : Nat) (hk : 40 < k) : trefoilref01_Two.f k n = some (twoV n) := by
  unfold trefoilref01_Two.f
  have := refTwo_l0 n 40 k 0 (by omega) hk (fun i hi => by omega)
  simpa using this
end Go.Proofs.YtdmgigicbppjkaaDoor.Q
