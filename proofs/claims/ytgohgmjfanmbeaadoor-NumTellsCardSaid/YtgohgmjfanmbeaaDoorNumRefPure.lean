/- Plain facts: the reference of layer 1 comes to the same numbers as the layer. No memory and no Go in it. -/
import Derived.Test.YtgohgmjfanmbeaaDoorQx2
import Derived.Test.YtgohgmjfanmbeaaDoorQx3
import Derived.Test.YtgohgmjfanmbeaaDoorNumPure
namespace Go.Proofs.YtgohgmjfanmbeaaDoor.Q
open Go.RowKit Go.Proofs.YtgohgmjfanmbeaaDoorW.PrintWords Go.Proofs.YtgohgmjfanmbeaaDoorW.PrintLast Go.Proofs.YtgohgmjfanmbeaaDoorW.PrintMore

theorem refCheck_eq (n : Int) : trefoilref01_Check.f n = some (code n) := by
  unfold trefoilref01_Check.f code
  by_cases h : n < 0
  · simp [h]
  · by_cases h2 : 1099511627775 < n <;> simp [h, h2]
theorem refAll_l0 (l : List Int) (hl : l.length ≤ 4611686018427387904) (d : Nat) : ∀ (k i : Nat), i + d = l.length → d < k → trefoilref01_All.l0 k l (i : Int) = some (firstV (l.drop i)) := by
  induction d with
  | zero =>
    intro k i hi hk
    obtain ⟨k, rfl⟩ : ∃ m, k = m + 1 := ⟨k - 1, by omega⟩
    simp only [trefoilref01_All.l0]
    rw [if_neg (by omega), List.drop_eq_nil_of_le (by omega)]
    rfl
  | succ d ih =>
    intro k i hi hk
    obtain ⟨k, rfl⟩ : ∃ m, k = m + 1 := ⟨k - 1, by omega⟩
    have hlt : i < l.length := by omega
    simp only [trefoilref01_All.l0]
    rw [if_pos (by omega), if_pos (by omega), refCheck_eq, rd_drop hlt, firstV_cons]
    simp only [Option.bind_some]
    by_cases hc : code (rd l (i : Int)) = 0
    · rw [if_pos hc, if_pos hc, w64 (by omega) (by omega)]
      have := ih k (i + 1) (by omega) (by omega)
      rw [show ((i + 1 : Nat) : Int) = (i : Int) + 1 from by omega] at this
      exact this
    · rw [if_neg hc, if_neg hc]
theorem refAll_eq (l : List Int) (hl : l.length ≤ 4611686018427387904) (k : Nat) (hk : l.length < k) : trefoilref01_All.f k l = some (firstV l) := by
  unfold trefoilref01_All.f
  have := refAll_l0 l hl l.length k 0 (by omega) hk
  simpa using this
theorem refAdd_l0 (l : List Int) (hall : ∀ x ∈ l, 0 ≤ x ∧ x ≤ 1099511627775) (hl : l.length ≤ 4611686018427387904) (d : Nat) : ∀ (k i : Nat) (s : Int), i + d = l.length → 0 ≤ s → s ≤ 1099511627775 → d < k →
    trefoilref01_Add.l0 k l s (i : Int) = some (if (l.drop i).sum ≤ s then (1099511627775 - (s - (l.drop i).sum), 0) else (0, 11)) := by
  induction d with
  | zero =>
    intro k i s hi h0 h1 hk
    obtain ⟨k, rfl⟩ : ∃ m, k = m + 1 := ⟨k - 1, by omega⟩
    have hd : l.drop i = [] := List.drop_eq_nil_of_le (by omega)
    simp only [trefoilref01_Add.l0]
    rw [if_neg (by omega), hd, List.sum_nil, if_pos h0, w64 (by omega) (by omega), Int.sub_zero]
  | succ d ih =>
    intro k i s hi h0 h1 hk
    obtain ⟨k, rfl⟩ : ∃ m, k = m + 1 := ⟨k - 1, by omega⟩
    have hlt : i < l.length := by omega
    have hx := hall _ (rd_mem hlt)
    have hs : 0 ≤ (l.drop (i + 1)).sum := sum_nonneg (fun x hx => (hall x (List.mem_of_mem_drop hx)).1)
    simp only [trefoilref01_Add.l0]
    rw [if_pos (by omega), if_pos (by omega), rd_drop hlt, List.sum_cons]
    by_cases hg : rd l (i : Int) > s
    · rw [if_pos hg, if_neg (by omega)]
    · rw [if_neg hg, w64 (x := (i : Int) + 1) (by omega) (by omega), w64 (by omega) (by omega)]
      have hr := ih k (i + 1) (s - rd l (i : Int)) (by omega) (by omega) (by omega) (by omega)
      rw [show ((i : Int) + 1) = ((i + 1 : Nat) : Int) from by omega, hr]
      by_cases hb : (l.drop (i + 1)).sum ≤ s - rd l (i : Int)
      · rw [if_pos hb, if_pos (by omega)]
        congr 2
        omega
      · rw [if_neg hb, if_neg (by omega)]
theorem refAdd_eq (l : List Int) (hl : l.length ≤ 4611686018427387904) (k : Nat) (hk : l.length < k) : trefoilref01_Add.f k l = some (addV l) := by
  unfold trefoilref01_Add.f addV
  rw [refAll_eq l hl k hk]
  simp only [Option.bind_some]
  by_cases h : firstV l = 0
  · rw [if_pos h, if_pos h]
    have := refAdd_l0 l (firstV_ok.1 h) hl l.length k 0 1099511627775 (by omega) (by omega) (by omega) hk
    simp only [List.drop_zero] at this
    rw [show ((0 : Nat) : Int) = 0 from rfl] at this
    rw [this]
    by_cases hs : l.sum ≤ 1099511627775
    · rw [if_pos hs, if_pos hs]
      congr 2
      omega
    · rw [if_neg hs, if_neg hs]
  · rw [if_neg h, if_neg h]

theorem shr_nat (b : Int) (j : Nat) (hj : j ≤ 39) : shr .i64 b (IntKind.u64.wrap (j : Int)) = b / 2 ^ j := by
  rw [wu64 (by omega) (by omega)]
  unfold shr
  rw [Int.toNat_natCast, Nat.min_eq_left (by have : IntKind.i64.bits = 64 := rfl; omega)]
theorem shl_nat (b : Int) (j : Nat) (hj : j ≤ 39) (h0 : 0 ≤ b * 2 ^ j) (h1 : b * 2 ^ j ≤ 9223372036854775807) : shl .i64 b (IntKind.u64.wrap (j : Int)) = b * 2 ^ j := by
  rw [wu64 (by omega) (by omega)]
  unfold shl
  rw [Int.toNat_natCast, Nat.min_eq_left (by have : IntKind.i64.bits = 64 := rfl; omega), IntKind.wrap_i64]
  omega
theorem half_pow (b : Int) (j : Nat) : b / 2 ^ j = 2 * (b / 2 ^ (j + 1)) + b / 2 ^ j % 2 := by
  have : b / 2 ^ (j + 1) = b / 2 ^ j / 2 := by rw [Int.pow_succ, Int.ediv_ediv_of_nonneg (Int.le_of_lt (pow_pos_int j))]
  rw [this]
  omega
theorem refMul_l0 (a b : Int) (h1 : 0 ≤ a) (h2 : a ≤ 1099511627775) (h3 : 0 ≤ b) (d : Nat) : ∀ (k : Nat), d ≤ 40 → d < k → a * (b / 2 ^ d) ≤ 1099511627775 →
    trefoilref01_Mul.l0 k a b (a * (b / 2 ^ d)) ((d : Int) - 1) = some (if a * b ≤ 1099511627775 then (a * b, 0) else (0, 11)) := by
  induction d with
  | zero =>
    intro k hd hk ho
    obtain ⟨k, rfl⟩ : ∃ m, k = m + 1 := ⟨k - 1, by omega⟩
    have e : b / 2 ^ 0 = b := by simp
    rw [e] at ho ⊢
    simp only [trefoilref01_Mul.l0]
    rw [if_neg (by omega), if_pos ho]
  | succ j ih =>
    intro k hd hk ho
    obtain ⟨k, rfl⟩ : ∃ m, k = m + 1 := ⟨k - 1, by omega⟩
    have hp := pow_pos_int j
    have hq0 : 0 ≤ b / 2 ^ (j + 1) := Int.ediv_nonneg h3 (Int.le_of_lt (pow_pos_int _))
    have hq1 : 0 ≤ b / 2 ^ j := Int.ediv_nonneg h3 (Int.le_of_lt hp)
    have hle : b / 2 ^ j ≤ b := Int.ediv_le_self _ h3
    have hm := half_pow b j
    have hn : 0 ≤ a * (b / 2 ^ (j + 1)) := Int.mul_nonneg h1 hq0
    have hmul : a * (b / 2 ^ j) ≤ a * b := Int.mul_le_mul_of_nonneg_left hle h1
    have hstep : a * (b / 2 ^ j) = 2 * (a * (b / 2 ^ (j + 1))) + a * (b / 2 ^ j % 2) := by
      conv => lhs; rw [hm]
      rw [Int.mul_add, ← Int.mul_assoc, ← Int.mul_assoc, Int.mul_comm a 2]
    simp only [trefoilref01_Mul.l0]
    rw [show (((j + 1 : Nat) : Int) - 1) = (j : Int) from by omega, if_pos (by omega), shr_nat b j (by omega), if_pos (by rw [wu64 (by omega) (by omega)]; omega), Int.tmod_eq_emod_of_nonneg hq1, w64 (x := (j : Int) - 1) (by omega) (by omega)]
    rw [w64 (x := 2 * (a * (b / 2 ^ (j + 1)))) (by omega) (by omega)]
    have hr := ih k (by omega) (by omega)
    by_cases hodd : b / 2 ^ j % 2 = 1
    · rw [if_pos hodd]
      rw [hodd, Int.mul_one] at hstep
      rw [← hstep]
      have hb2 : a * (b / 2 ^ j) ≤ 3298534883325 := by omega
      rw [w64 (by omega) (by omega)]
      by_cases hg : a * (b / 2 ^ j) > 1099511627775
      · rw [if_pos hg, if_neg (by omega)]
      · rw [if_neg hg, hr (by omega)]
    · have h0 : b / 2 ^ j % 2 = 0 := by omega
      rw [if_neg hodd]
      rw [h0, Int.mul_zero, Int.add_zero] at hstep
      rw [← hstep]
      by_cases hg : a * (b / 2 ^ j) > 1099511627775
      · rw [if_pos hg, if_neg (by omega)]
      · rw [if_neg hg, hr (by omega)]
theorem refMul_eq (a b : Int) (k : Nat) (hk : 40 < k) : trefoilref01_Mul.f k a b = some (mulV a b) := by
  unfold trefoilref01_Mul.f mulV
  rw [refAll_eq [a, b] (by simp) k (by simp; omega)]
  simp only [Option.bind_some]
  by_cases h : firstV [a, b] = 0
  · obtain ⟨h1, h2, h3, h4⟩ := two_ok h
    rw [if_pos h, if_pos h]
    have e : b / 2 ^ 40 = 0 := by
      rw [show (2 : Int) ^ 40 = 1099511627776 from by decide]
      omega
    have := refMul_l0 a b h1 h2 h3 40 k (by omega) hk (by rw [e]; simp)
    rw [e, Int.mul_zero] at this
    exact this
  · rw [if_neg h, if_neg h]
theorem refDown_l0 (b : Int) (h3 : 0 < b) (h4 : b ≤ 1099511627775) (d : Nat) : ∀ (k : Nat) (q left : Int), d ≤ 40 → d < k → 0 ≤ left → left < b * 2 ^ d → left ≤ 1099511627775 → 0 ≤ q → q + 2 ^ d ≤ 1099511627776 →
    trefoilref01_Down.l0 k b q left ((d : Int) - 1) = some (q + left / b, 0) := by
  induction d with
  | zero =>
    intro k q left hd hk h0 h1 h2 hq hs
    obtain ⟨k, rfl⟩ : ∃ m, k = m + 1 := ⟨k - 1, by omega⟩
    simp only [trefoilref01_Down.l0]
    rw [if_neg (by omega), Int.ediv_eq_zero_of_lt h0 (by simpa using h1), Int.add_zero]
  | succ j ih =>
    intro k q left hd hk h0 h1 h2 hq hs
    obtain ⟨k, rfl⟩ : ∃ m, k = m + 1 := ⟨k - 1, by omega⟩
    have hp := pow_pos_int j
    have hbp : 0 ≤ b * 2 ^ j := Int.mul_nonneg (by omega) (by omega)
    rw [pow_succ_int] at hs
    have e2 : b * 2 ^ (j + 1) = 2 * (b * 2 ^ j) := by rw [pow_succ_int, ← Int.mul_assoc, ← Int.mul_assoc, Int.mul_comm b 2]
    rw [e2] at h1
    simp only [trefoilref01_Down.l0]
    rw [show (((j + 1 : Nat) : Int) - 1) = (j : Int) from by omega, if_pos (by omega), shr_nat left j (by omega), if_pos (by rw [wu64 (by omega) (by omega)]; omega), w64 (x := (j : Int) - 1) (by omega) (by omega)]
    by_cases hg : left / 2 ^ j ≥ b
    · have hle : b * 2 ^ j ≤ left := by
        have := Int.mul_le_mul_of_nonneg_right hg (Int.le_of_lt hp)
        have h5 : left / 2 ^ j * 2 ^ j ≤ left := Int.ediv_mul_le left (by omega)
        omega
      rw [if_pos hg, shl_nat 1 j (by omega) (by omega) (by omega), shl_nat b j (by omega) hbp (by omega), Int.one_mul]
      rw [w64 (x := q + 2 ^ j) (by omega) (by omega), w64 (x := left - b * 2 ^ j) (by omega) (by omega)]
      rw [ih k (q + 2 ^ j) (left - b * 2 ^ j) (by omega) (by omega) (by omega) (by omega) (by omega) (by omega) (by omega)]
      have e3 : left / b = 2 ^ j + (left - b * 2 ^ j) / b := by
        conv => lhs; rw [show left = (left - b * 2 ^ j) + b * 2 ^ j from by omega]
        rw [Int.add_mul_ediv_left _ _ (by omega)]
        omega
      rw [e3]
      congr 2
      omega
    · have hlt : left < b * 2 ^ j := by
        have h5 := Int.lt_ediv_add_one_mul_self left hp
        have h6 : (left / 2 ^ j + 1) * 2 ^ j ≤ b * 2 ^ j := Int.mul_le_mul_of_nonneg_right (by omega) (by omega)
        omega
      rw [if_neg hg, ih k q left (by omega) (by omega) h0 hlt h2 hq (by omega)]
theorem refDown_eq (a b : Int) (k : Nat) (hk : 40 < k) : trefoilref01_Down.f k a b = some (downV a b) := by
  unfold trefoilref01_Down.f downV
  rw [refAll_eq [a, b] (by simp) k (by simp; omega)]
  simp only [Option.bind_some]
  by_cases h : firstV [a, b] = 0
  · obtain ⟨h1, h2, h3, h4⟩ := two_ok h
    rw [if_pos h, if_pos h]
    by_cases hb : b = 0
    · rw [if_pos hb, if_pos hb]
    · rw [if_neg hb, if_neg hb]
      have e : (2 : Int) ^ 40 = 1099511627776 := by decide
      have := refDown_l0 b (by omega) h4 40 k 0 a (by omega) hk h1 (by rw [e]; omega) h2 (by omega) (by rw [e]; omega)
      rw [Int.zero_add] at this
      exact this
  · rw [if_neg h, if_neg h]
theorem refTwo_l0 (n : Int) (d : Nat) : ∀ (k j : Nat), j + d = 40 → d < k → (∀ i : Nat, i < j → (2 : Int) ^ i ≠ n) → trefoilref01_Two.l0 k n (2 ^ j) (j : Int) = some (twoV n) := by
  induction d with
  | zero =>
    intro k j hj hk hno
    obtain ⟨k, rfl⟩ : ∃ m, k = m + 1 := ⟨k - 1, by omega⟩
    simp only [trefoilref01_Two.l0]
    rw [if_neg (by omega), twoV_no (fun i hi => hno i (by omega))]
  | succ d ih =>
    intro k j hj hk hno
    obtain ⟨k, rfl⟩ : ∃ m, k = m + 1 := ⟨k - 1, by omega⟩
    simp only [trefoilref01_Two.l0]
    rw [if_pos (by omega)]
    by_cases he : (2 : Int) ^ j = n
    · rw [if_pos he, ← he, twoV_pow j (by omega)]
    · rw [if_neg he, ← pow_succ_int]
      have hb : (2 : Int) ^ (j + 1) ≤ 1099511627776 := by
        have h1 : 2 ^ (j + 1) ≤ 2 ^ 40 := Nat.pow_le_pow_right (by decide) (by omega)
        have h2 : ((2 ^ (j + 1) : Nat) : Int) = (2 : Int) ^ (j + 1) := by simp
        rw [show 2 ^ 40 = 1099511627776 from by decide] at h1
        rw [← h2]
        exact Int.ofNat_le.2 h1
      have hp := pow_pos_int (j + 1)
      rw [w64 (by omega) (by omega), w64 (by omega) (by omega)]
      have := ih k (j + 1) (by omega) (by omega) (fun i hi => by
        rcases Nat.lt_or_ge i j with h1 | h1
        · exact hno i h1
        · obtain rfl : i = j := by omega
          exact he)
      rw [show ((j + 1 : Nat) : Int) = (j : Int) + 1 from by omega] at this
      exact this
theorem refTwo_eq (n : Int) (k : Nat) (hk : 40 < k) : trefoilref01_Two.f k n = some (twoV n) := by
  unfold trefoilref01_Two.f
  have := refTwo_l0 n 40 k 0 (by omega) hk (fun i hi => by omega)
  simpa using this
end Go.Proofs.YtgohgmjfanmbeaaDoor.Q
