/- Plain facts: the statement NumTwos, as numbers and lists, is true. No memory and no Go in it. -/
import Derived.Test.YtgohgmjfanmbeaaDoorQx8
import Derived.Test.YtgohgmjfanmbeaaDoorAwakePure
namespace Go.Proofs.YtgohgmjfanmbeaaDoor.Q
open Go.RowKit Go.Proofs.YtgohgmjfanmbeaaDoorW.PrintWords Go.Proofs.YtgohgmjfanmbeaaDoorW.PrintLast Go.Proofs.YtgohgmjfanmbeaaDoorW.PrintMore

theorem twoV_odd {n : Int} (i : Nat) (left : Int) (e : n = left * 2 ^ i) (hodd : left % 2 = 1) (h1 : left ≠ 1) : twoV n = (0, false) := by
  refine twoV_no fun k hk he => ?_
  rw [e] at he
  rcases Nat.lt_or_ge k i with h | h
  · obtain ⟨j, rfl⟩ : ∃ j, i = k + (j + 1) := ⟨i - k - 1, by omega⟩
    rw [Int.pow_add, ← Int.mul_assoc, Int.mul_comm left, Int.mul_assoc] at he
    have h2 : left * 2 ^ (j + 1) = 1 := by
      have hp := pow_pos_int k
      have : (2 : Int) ^ k * (left * 2 ^ (j + 1)) = 2 ^ k * 1 := by rw [← he, Int.mul_one]
      exact Int.eq_of_mul_eq_mul_left (by omega) this
    rw [pow_succ_int, ← Int.mul_assoc, Int.mul_comm left, Int.mul_assoc] at h2
    omega
  · obtain ⟨j, rfl⟩ : ∃ j, k = i + j := ⟨k - i, by omega⟩
    rw [Int.pow_add, Int.mul_comm left] at he
    have hp := pow_pos_int i
    have h2 : (2 : Int) ^ j = left := Int.eq_of_mul_eq_mul_left (by omega) he
    cases j with
    | zero => exact h1 (by rw [← h2]; rfl)
    | succ j => rw [pow_succ_int] at h2; omega
theorem twos_end (n k x4' : Int) (ok : Bool) (left : Int) (i : Nat) (hv : twoV n = (k, ok)) (hn : 0 < n → n = left * 2 ^ i ∧ (left % 2 = 1) ∧ 0 < left) (hneg : n ≤ 0 → left ≤ 0) (hx : x4' = i) :
    (if left = 1 then (if (ok == (decide (n ≤ 1099511627775))) = true then (if n ≤ 1099511627775 then (if k = x4' then (some true) else (some false)) else (some (k == 0))) else (some false)) else (if (ok == false) = true then (some (k == 0)) else (some false))) = some true := by
  by_cases hp : 0 < n
  · obtain ⟨e, ho, hl⟩ := hn hp
    by_cases h1 : left = 1
    · rw [if_pos h1]
      rw [h1, Int.one_mul] at e
      by_cases hm : n ≤ 1099511627775
      · have hi : i < 40 := by
          rcases Nat.lt_or_ge i 40 with h | h
          · exact h
          · have h2 : 2 ^ 40 ≤ 2 ^ i := Nat.pow_le_pow_right (by decide) h
            have h3 : ((2 ^ i : Nat) : Int) = (2 : Int) ^ i := by simp
            rw [show 2 ^ 40 = 1099511627776 from by decide] at h2
            generalize 2 ^ i = z at h2 h3
            rw [← h3] at e
            omega
        have := twoV_pow i hi
        rw [← e, hv] at this
        simp only [Prod.mk.injEq] at this
        rw [this.2, if_pos (by simp [hm]), if_pos hm, if_pos (by rw [this.1, hx])]
      · have h0 : twoV n = (0, false) := twoV_no (fun j hj he => by
          obtain ⟨_, _, hl⟩ := Pop.bit_one j hj
          have h3 : ((2 ^ j : Nat) : Int) = (2 : Int) ^ j := by simp
          generalize 2 ^ j = z at hl h3
          rw [← h3] at he
          omega)
        rw [hv] at h0
        simp only [Prod.mk.injEq] at h0
        rw [h0.2, h0.1, if_pos (by simp [hm]), if_neg hm]
        rfl
    · have h0 := twoV_odd i left e ho h1
      rw [hv] at h0
      simp only [Prod.mk.injEq] at h0
      rw [if_neg h1, h0.2, h0.1]
      rfl
  · have hl := hneg (by omega)
    have h0 : twoV n = (0, false) := twoV_no (fun j _ he => by
      have := pow_pos_int j
      omega)
    rw [hv] at h0
    simp only [Prod.mk.injEq] at h0
    rw [if_neg (by omega), h0.2, h0.1]
    rfl
theorem twos_l0 (n k : Int) (ok : Bool) (hv : twoV n = (k, ok)) (hn1 : n ≤ 9223372036854775807) (d : Nat) : ∀ (r i : Nat) (left : Int), i + d = 64 → d < r → (0 < n → n = left * 2 ^ i ∧ 0 < left) → (n ≤ 0 → left ≤ 0) →
    trefoillaw01_NumTwos.l0 r n k ok left (i : Int) (i : Int) = some true := by
  induction d with
  | zero =>
    intro r i left hi hr hp hneg
    obtain ⟨r, rfl⟩ : ∃ m, r = m + 1 := ⟨r - 1, by omega⟩
    simp only [trefoillaw01_NumTwos.l0]
    rw [if_neg (by omega)]
    refine twos_end n k i ok left i hv (fun h => ?_) hneg rfl
    obtain ⟨e, hl⟩ := hp h
    obtain rfl : i = 64 := by omega
    rw [show (2 : Int) ^ 64 = 18446744073709551616 from by decide] at e
    omega
  | succ d ih =>
    intro r i left hi hr hp hneg
    obtain ⟨r, rfl⟩ : ∃ m, r = m + 1 := ⟨r - 1, by omega⟩
    simp only [trefoillaw01_NumTwos.l0]
    rw [if_pos (by omega)]
    by_cases hl : left > 0
    · rw [if_pos hl, Int.tmod_eq_emod_of_nonneg (by omega)]
      have hn : 0 < n := by
        rcases Int.lt_or_le 0 n with h | h
        · exact h
        · have := hneg h; omega
      obtain ⟨e, _⟩ := hp hn
      have hle : left ≤ n := by
        have h2 : left * 1 ≤ left * 2 ^ i := Int.mul_le_mul_of_nonneg_left (by have := pow_pos_int i; omega) (by omega)
        omega
      by_cases hm : left % 2 = 0
      · rw [if_pos hm, Int.tdiv_eq_ediv_of_nonneg (by omega), w64 (x := left / 2) (by omega) (by omega), w64 (by omega) (by omega)]
        have := ih r (i + 1) (left / 2) (by omega) (by omega) (fun _ => ⟨by rw [pow_succ_int, ← Int.mul_assoc, show left / 2 * 2 = left from by omega]; exact e, by omega⟩) (fun h => by omega)
        rw [show ((i + 1 : Nat) : Int) = (i : Int) + 1 from by omega] at this
        exact this
      · rw [if_neg hm]
        exact twos_end n k i ok left i hv (fun _ => ⟨e, by omega, hl⟩) hneg rfl
    · rw [if_neg hl]
      exact twos_end n k i ok left i hv (fun h => absurd (hp h).2 (by omega)) hneg rfl
theorem numTwos (n : Int) (hn : n ≤ 9223372036854775807) : trefoillaw01_NumTwos.f 100 n = some true := by
  unfold trefoillaw01_NumTwos.f
  rw [awake_eq 100 (by omega)]
  simp only [Option.bind_some, if_true]
  rw [two_eq]
  simp only [Option.bind_some]
  have := twos_l0 n (twoV n).1 (twoV n).2 rfl hn 64 100 0 n (by omega) (by omega) (fun h => ⟨by simp, h⟩) (fun h => h)
  simpa using this
end Go.Proofs.YtgohgmjfanmbeaaDoor.Q
