/- Plain facts: which numbers may be, and which are powers of two. No memory and no Go in it. -/
import Derived.Test.YtdmgigicbppjkaaDoorQx1
import Derived.Test.YtdmgigicbppjkaaDoorPopPure
namespace Go.Proofs.YtdmgigicbppjkaaDoor.Q
open Go.RowKit Go.Proofs.YtdmgigicbppjkaaDoorW.PrintWords Go.Proofs.YtdmgigicbppjkaaDoorW.PrintLast Go.Proofs.YtdmgigicbppjkaaDoorW.PrintMore

theorem w64 {x : Int} (h1 : -9223372036854775808 ≤ x) (h2 : x ≤ 9223372036854775807) : wrap64 x = x := by unfold wrap64; omega
theorem wu64 {x : Int} (h1 : 0 ≤ x) (h2 : x ≤ 18446744073709551615) : IntKind.u64.wrap x = x := by rw [wrap_u64_]; omega

/-- What Check tells. -/
def code (n : Int) : Int := if n < 0 then 10 else if 1099511627775 < n then 11 else 0
theorem check_eq (n : Int) : num_Check.f n = some (code n) := by
  unfold num_Check.f code
  by_cases h : n < 0
  · simp [h]
  · by_cases h2 : 1099511627775 < n <;> simp [h, h2]
theorem code_ok {n : Int} : code n = 0 ↔ 0 ≤ n ∧ n ≤ 1099511627775 := by
  unfold code
  by_cases h : n < 0
  · rw [if_pos h]; constructor
    · intro h; cases h
    · intro h; omega
  · rw [if_neg h]
    by_cases h2 : 1099511627775 < n
    · rw [if_pos h2]; constructor
      · intro h; cases h
      · intro h; omega
    · rw [if_neg h2]; constructor
      · intro _; omega
      · intro _; rfl
theorem sum_nonneg {l : List Int} (h : ∀ x ∈ l, 0 ≤ x) : 0 ≤ l.sum := by
  induction l with
  | nil => simp
  | cons a l ih =>
    rw [List.sum_cons]
    have := h a (by simp)
    have := ih (fun x hx => h x (by simp [hx]))
    omega
theorem rd_drop {l : List Int} {i : Nat} (h : i < l.length) : l.drop i = rd l (i : Int) :: l.drop (i + 1) := by
  rw [List.drop_eq_getElem_cons h]
  unfold rd
  rw [Int.toNat_natCast, List.getD_eq_getElem?_getD, List.getElem?_eq_getElem h, Option.getD_some]
theorem rd_mem {l : List Int} {i : Nat} (h : i < l.length) : rd l (i : Int) ∈ l := by
  unfold rd
  rw [Int.toNat_natCast, List.getD_eq_getElem?_getD, List.getElem?_eq_getElem h, Option.getD_some]
  exact List.getElem_mem h
theorem and_low (a : Nat) (ha : a < 18446744073709551616) : Go.bits .and .u64 (a : Int) 4294967295 = ((a % 4294967296 : Nat) : Int) := by
  have := and_u64_nat a 4294967295 ha (by omega)
  rw [show ((4294967295 : Nat) : Int) = 4294967295 from rfl] at this
  rw [this]
  have : a &&& 4294967295 = a % 2 ^ 32 := Nat.and_two_pow_sub_one_eq_mod a 32
  rw [this]
/-- Powers of two. -/
def twoV (a : Int) : Int × Bool := match (List.range 40).find? (fun k => decide ((2 : Int) ^ k = a)) with
  | some k => ((k : Int), true)
  | none => (0, false)
theorem twoV_pow : ∀ k : Nat, k < 40 → twoV ((2 : Int) ^ k) = ((k : Int), true) := by decide +kernel
theorem twoV_no {a : Int} (h : ∀ k : Nat, k < 40 → (2 : Int) ^ k ≠ a) : twoV a = (0, false) := by
  unfold twoV
  rw [List.find?_eq_none.2 (fun k hk => by simpa using h k (by simpa using hk))]
theorem ones1 (x y1 : Nat) (hx : x < 18446744073709551616) (h1 : y1 = (x / 2 &&& 6148914691236517205) + (x &&& 6148914691236517205)) (l1 : y1 < 18446744073709551616) :
    IntKind.u64.wrap ((Go.bits .and .u64 ((x : Int) / 2) 6148914691236517205) + (Go.bits .and .u64 (x : Int) 6148914691236517205)) = (y1 : Int) := by
  have a1 := and_u64_nat (x / 2) 6148914691236517205 (by omega) (by omega)
  have a2 := and_u64_nat x 6148914691236517205 hx (by omega)
  rw [show ((6148914691236517205 : Nat) : Int) = 6148914691236517205 from rfl] at a1 a2
  rw [show (x : Int) / 2 = ((x / 2 : Nat) : Int) from by omega, a1, a2]
  generalize x / 2 &&& 6148914691236517205 = p at *
  generalize x &&& 6148914691236517205 = q at *
  rw [wu64 (by omega) (by omega)]
  omega
theorem ones2 (x y1 : Nat) (hx : x < 18446744073709551616) (h1 : y1 = (x / 4 &&& 3689348814741910323) + (x &&& 3689348814741910323)) (l1 : y1 < 18446744073709551616) :
    IntKind.u64.wrap ((Go.bits .and .u64 ((x : Int) / 4) 3689348814741910323) + (Go.bits .and .u64 (x : Int) 3689348814741910323)) = (y1 : Int) := by
  have a1 := and_u64_nat (x / 4) 3689348814741910323 (by omega) (by omega)
  have a2 := and_u64_nat x 3689348814741910323 hx (by omega)
  rw [show ((3689348814741910323 : Nat) : Int) = 3689348814741910323 from rfl] at a1 a2
  rw [show (x : Int) / 4 = ((x / 4 : Nat) : Int) from by omega, a1, a2]
  generalize x / 4 &&& 3689348814741910323 = p at *
  generalize x &&& 3689348814741910323 = q at *
  rw [wu64 (by omega) (by omega)]
  omega
theorem ones3 (y2 y3 : Nat) (h3 : y3 = (y2 / 16 + y2) &&& 1085102592571150095) (ls : y2 / 16 + y2 < 18446744073709551616) :
    Go.bits .and .u64 (IntKind.u64.wrap ((y2 : Int) / 16 + (y2 : Int))) 1085102592571150095 = (y3 : Int) := by
  have a1 := and_u64_nat (y2 / 16 + y2) 1085102592571150095 ls (by omega)
  rw [show ((1085102592571150095 : Nat) : Int) = 1085102592571150095 from rfl] at a1
  rw [show (y2 : Int) / 16 + (y2 : Int) = ((y2 / 16 + y2 : Nat) : Int) from by omega, wu64 (by omega) (by omega), a1, ← h3]
theorem ones4 (m y3 y4 : Nat) (h4 : y4 = y3 + y3 / m) (l4 : y4 < 9223372036854775808) : IntKind.u64.wrap ((y3 : Int) + (y3 : Int) / (m : Int)) = (y4 : Int) := by
  rw [show (y3 : Int) / (m : Int) = ((y3 / m : Nat) : Int) from by simp]
  generalize y3 / m = q at *
  rw [wu64 (by omega) (by omega)]
  omega
theorem ones6 (y6 : Nat) (l6 : y6 < 9223372036854775808) : Go.bits .and .i64 (y6 : Int) 127 = ((y6 % 128 : Nat) : Int) := by
  have o1 : (BitVec.ofInt 64 (y6 : Int)).toNat = y6 := by
    rw [BitVec.ofInt_natCast, BitVec.toNat_ofNat]; exact Nat.mod_eq_of_lt (by omega)
  show IntKind.i64.wrap ((BitVec.ofInt 64 (y6 : Int) &&& BitVec.ofInt 64 127).toNat : Int) = _
  rw [BitVec.toNat_and, o1, show (BitVec.ofInt 64 127).toNat = 127 from by decide]
  have := Nat.and_two_pow_sub_one_eq_mod y6 7
  rw [show y6 &&& 127 = y6 % 128 from this, IntKind.wrap_i64]
  omega
theorem ones_eq (x : Nat) (hx : x < 18446744073709551616) : bits_OnesCount64.f (x : Int) = some ((Pop.sum8 Pop.pop8 x : Nat) : Int) := by
  obtain ⟨y1, h1⟩ : ∃ y1, y1 = (x / 2 &&& 6148914691236517205) + (x &&& 6148914691236517205) := ⟨_, rfl⟩
  obtain ⟨y2, h2⟩ : ∃ y2, y2 = (y1 / 4 &&& 3689348814741910323) + (y1 &&& 3689348814741910323) := ⟨_, rfl⟩
  obtain ⟨y3, h3⟩ : ∃ y3, y3 = (y2 / 16 + y2) &&& 1085102592571150095 := ⟨_, rfl⟩
  obtain ⟨y4, h4⟩ : ∃ y4, y4 = y3 + y3 / 256 := ⟨_, rfl⟩
  obtain ⟨y5, h5⟩ : ∃ y5, y5 = y4 + y4 / 65536 := ⟨_, rfl⟩
  obtain ⟨y6, h6⟩ : ∃ y6, y6 = y5 + y5 / 4294967296 := ⟨_, rfl⟩
  obtain ⟨hb, l1, l2, ls⟩ := Pop.stages x y1 y2 y3 hx h1 h2 h3
  rw [Pop.bytes_eq] at hb
  obtain ⟨hr, l4, l5, l6⟩ := Pop.last _ _ _ _ _ _ _ _ y3 y4 y5 y6 (Pop.pop8_le _) (Pop.pop8_le _) (Pop.pop8_le _) (Pop.pop8_le _) (Pop.pop8_le _) (Pop.pop8_le _) (Pop.pop8_le _) (Pop.pop8_le _) hb h4 h5 h6
  have e1 := ones1 x y1 hx h1 l1
  have e2 := ones2 y1 y2 l1 h2 l2
  have e3 := ones3 y2 y3 h3 ls
  have e4 : IntKind.u64.wrap ((y3 : Int) + (y3 : Int) / 256) = (y4 : Int) := ones4 256 y3 y4 h4 l4
  have e5 : IntKind.u64.wrap ((y4 : Int) + (y4 : Int) / 65536) = (y5 : Int) := ones4 65536 y4 y5 h5 l5
  have e6 : IntKind.u64.wrap ((y5 : Int) + (y5 : Int) / 4294967296) = (y6 : Int) := ones4 4294967296 y5 y6 h6 l6
  have e7 := ones6 y6 l6
  have e8 : wrap64 (y6 : Int) = (y6 : Int) := by clear h1 h2 h3 h4 h5 h6 hb hr e1 e2 e3 e4 e5 e6 e7; exact w64 (by omega) (by omega)
  clear hb h1 h2 h3 h4 h5 h6
  unfold bits_OnesCount64.f
  rw [e1, e2, e3, e4, e5, e6, e8, e7, hr]
  rfl
theorem two_eq (a : Int) : num_Two.f a = some (twoV a) := by
  unfold num_Two.f
  rw [check_eq]
  simp only [Option.bind_some]
  by_cases hc : code a = 0
  · obtain ⟨h0, h1⟩ := code_ok.1 hc
    obtain ⟨x, rfl⟩ := Int.eq_ofNat_of_zero_le h0
    rw [if_pos hc, wu64 h0 (by omega)]
    unfold bits_OnesCount.f
    rw [ones_eq x (by omega)]
    simp only [Option.bind_some]
    by_cases hp : Pop.sum8 Pop.pop8 x = 1
    · obtain ⟨k, hk, rfl⟩ := Pop.one_bit x (by omega) hp
      obtain ⟨_, ht, _⟩ := Pop.bit_one k hk
      rw [if_pos (by omega)]
      unfold bits_TrailingZeros.f
      have hpos : 0 < 2 ^ k := Nat.two_pow_pos k
      rw [if_pos ⟨by omega, by omega⟩, Int.toNat_natCast, ht]
      have := twoV_pow k hk
      rw [show ((2 : Int) ^ k) = ((2 ^ k : Nat) : Int) from by simp] at this
      rw [this]
      rfl
    · rw [if_neg (by omega), twoV_no]
      intro k hk he
      have e : x = 2 ^ k := by
        have : ((2 ^ k : Nat) : Int) = (x : Int) := by simpa using he
        omega
      exact hp (e ▸ (Pop.bit_one k hk).1)
  · rw [if_neg hc, twoV_no]
    intro k hk he
    obtain ⟨_, _, hl⟩ := Pop.bit_one k hk
    have e : ((2 ^ k : Nat) : Int) = a := by simpa using he
    generalize 2 ^ k = p at hl e
    exact hc (code_ok.2 ⟨by omega, by omega⟩)
theorem pow_succ_int (j : Nat) : (2 : Int) ^ (j + 1) = 2 * 2 ^ j := by rw [Int.pow_succ, Int.mul_comm]
theorem pow_pos_int (j : Nat) : (0 : Int) < 2 ^ j := Int.pow_pos (by decide)
end Go.Proofs.YtdmgigicbppjkaaDoor.Q
