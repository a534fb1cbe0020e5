/- Plain facts: what the functions of layer 1, and of its reference, come to, as numbers and lists. No memory and no Go in it. -/
import Derived.Test.YtgohgmjfanmbeaaDoorQx1
import Derived.Test.YtgohgmjfanmbeaaDoorPopPure
namespace Go.Proofs.YtgohgmjfanmbeaaDoor.Q
open Go.RowKit Go.Proofs.YtgohgmjfanmbeaaDoorW.PrintWords Go.Proofs.YtgohgmjfanmbeaaDoorW.PrintLast Go.Proofs.YtgohgmjfanmbeaaDoorW.PrintMore

theorem w64 {x : Int} (h1 : -9223372036854775808 ≤ x) (h2 : x ≤ 9223372036854775807) : wrap64 x = x := by unfold wrap64; omega
theorem wu64 {x : Int} (h1 : 0 ≤ x) (h2 : x ≤ 18446744073709551615) : IntKind.u64.wrap x = x := by rw [wrap_u64_]; omega

/-- What Check tells. -/
def code (n : Int) : Int := if n < 0 then 10 else if 1099511627775 < n then 11 else 0
theorem check_eq (n : Int) : num_Check.f n = some (code n) := check_total n
theorem code_ok {n : Int} : code n = 0 ↔ 0 ≤ n ∧ n ≤ 1099511627775 := by
  unfold code
  by_cases h : n < 0
  · rw [if_pos h]; constructor
    · intro h; cases h
    · intro h; omega
  · rw [if_neg h]
    by_cases h2 : 1099511627775 < n
    · rw [if_pos h2]; constructor
      · intro h; cases h
      · intro h; omega
    · rw [if_neg h2]; constructor
      · intro _; omega
      · intro _; rfl
theorem badB_iff {n : Int} : badB n = false ↔ 0 ≤ n ∧ n ≤ 1099511627775 := by unfold badB; simp
theorem badB_code' {n : Int} : badB n = true ↔ code n ≠ 0 := by
  rw [Ne, code_ok, ← badB_iff]; simp

theorem firstV_nil : firstV [] = 0 := rfl
theorem firstV_cons (n : Int) (l : List Int) : firstV (n :: l) = if code n = 0 then firstV l else code n := by
  cases hb : badB n with
  | true =>
    have hc : code n ≠ 0 := badB_code'.1 hb
    have e : idxB badB (n :: l) = 0 := by
      unfold idxB
      rw [List.findIdx_cons, hb]
      simp
    unfold firstV
    rw [e, if_neg hc]
    simp [rd, code]
  | false =>
    have hc : code n = 0 := code_ok.2 (badB_iff.1 hb)
    have hf : (n :: l).findIdx badB = l.findIdx badB + 1 := by rw [List.findIdx_cons, hb]; rfl
    rw [if_pos hc]
    by_cases hlt : l.findIdx badB < l.length
    · have e1 : idxB badB (n :: l) = (l.findIdx badB : Int) + 1 := by unfold idxB; rw [hf]; simp [hlt]
      have e2 : idxB badB l = (l.findIdx badB : Int) := by unfold idxB; rw [if_pos hlt]
      have e3 : rd (n :: l) ((l.findIdx badB : Int) + 1) = rd l (l.findIdx badB : Int) := by
        unfold rd
        rw [show ((l.findIdx badB : Int) + 1).toNat = l.findIdx badB + 1 from by omega, Int.toNat_natCast, List.getD_cons_succ]
      unfold firstV
      rw [e1, e2, e3, if_pos (c := 0 ≤ (l.findIdx badB : Int) + 1) (by omega), if_pos (c := 0 ≤ (l.findIdx badB : Int)) (by omega)]
    · have e1 : idxB badB (n :: l) = -1 := by unfold idxB; rw [hf]; simp [hlt]
      have e2 : idxB badB l = -1 := by unfold idxB; rw [if_neg hlt]
      unfold firstV
      rw [e1, e2]
      rfl
theorem firstV_ok {l : List Int} : firstV l = 0 ↔ ∀ x ∈ l, 0 ≤ x ∧ x ≤ 1099511627775 := by
  induction l with
  | nil => simp [firstV_nil]
  | cons n l ih =>
    rw [firstV_cons]
    by_cases h : code n = 0
    · rw [if_pos h, ih]
      have := code_ok.1 h
      simp [this]
    · rw [if_neg h]
      simp only [List.mem_cons, forall_eq_or_imp, ← code_ok]
      simp [h]
theorem first_two (a b : Int) : firstV [a, b] = if code a = 0 then code b else code a := by
  rw [firstV_cons, firstV_cons, firstV_nil]
  by_cases h : code b = 0 <;> simp [h]
theorem first_eq (l : List Int) : num_first.f l = some (firstV l) := rfl

/-- Sums. -/
def addV (l : List Int) : Int × Int := if firstV l = 0 then (if l.sum ≤ 1099511627775 then (l.sum, 0) else (0, 11)) else (0, firstV l)
theorem told_eq {n : Int} (h : 0 ≤ n) : num_told.f n = some (if n ≤ 1099511627775 then (n, 0) else (0, 11)) := by
  unfold num_told.f
  rw [check_eq]
  simp only [Option.bind_some]
  by_cases h2 : n ≤ 1099511627775
  · rw [if_pos (code_ok.2 ⟨h, h2⟩), if_pos h2]
  · have : code n = 11 := by unfold code; rw [if_neg (by omega), if_pos (by omega)]
    rw [this, if_neg (by decide), if_neg h2]
theorem sum_nonneg {l : List Int} (h : ∀ x ∈ l, 0 ≤ x) : 0 ≤ l.sum := by
  induction l with
  | nil => simp
  | cons a l ih =>
    rw [List.sum_cons]
    have := h a (by simp)
    have := ih (fun x hx => h x (by simp [hx]))
    omega
theorem rd_drop {l : List Int} {i : Nat} (h : i < l.length) : l.drop i = rd l (i : Int) :: l.drop (i + 1) := by
  rw [List.drop_eq_getElem_cons h]
  unfold rd
  rw [Int.toNat_natCast, List.getD_eq_getElem?_getD, List.getElem?_eq_getElem h, Option.getD_some]
theorem rd_mem {l : List Int} {i : Nat} (h : i < l.length) : rd l (i : Int) ∈ l := by
  unfold rd
  rw [Int.toNat_natCast, List.getD_eq_getElem?_getD, List.getElem?_eq_getElem h, Option.getD_some]
  exact List.getElem_mem h
theorem add_l0 (l : List Int) (hall : ∀ x ∈ l, 0 ≤ x ∧ x ≤ 1099511627775) (hl : l.length ≤ 4611686018427387904) (d : Nat) : ∀ (k i : Nat) (s : Int), i + d = l.length → 0 ≤ s → s ≤ 1099511627776 → d < k →
    num_Add.l0 k s l (l.length : Int) (i : Int) = some (if s + (l.drop i).sum ≤ 1099511627775 then (s + (l.drop i).sum, 0) else (0, 11)) := by
  induction d with
  | zero =>
    intro k i s hi h0 h1 hk
    obtain ⟨k, rfl⟩ : ∃ m, k = m + 1 := ⟨k - 1, by omega⟩
    have hd : l.drop i = [] := List.drop_eq_nil_of_le (by omega)
    simp only [num_Add.l0]
    rw [if_neg (by omega), told_eq h0, hd]
    simp only [Option.bind_some, List.sum_nil, Int.add_zero]
  | succ d ih =>
    intro k i s hi h0 h1 hk
    obtain ⟨k, rfl⟩ : ∃ m, k = m + 1 := ⟨k - 1, by omega⟩
    have hlt : i < l.length := by omega
    have hx := hall _ (rd_mem hlt)
    have hs : 0 ≤ (l.drop (i + 1)).sum := sum_nonneg (fun x hx => (hall x (List.mem_of_mem_drop hx)).1)
    simp only [num_Add.l0]
    rw [if_pos (by omega), if_pos (by omega), if_pos (by omega), w64 (x := (i : Int) + 1) (by omega) (by omega), w64 (by omega) (by omega)]
    have e : mn (s + rd l (i : Int)) 1099511627776 = if 1099511627776 < s + rd l (i : Int) then 1099511627776 else s + rd l (i : Int) := rfl
    have hr := ih k (i + 1) (mn (s + rd l (i : Int)) 1099511627776) (by omega) (by rw [e]; split <;> omega) (by rw [e]; split <;> omega) (by omega)
    rw [show ((i : Int) + 1) = ((i + 1 : Nat) : Int) from by omega, hr, rd_drop hlt, List.sum_cons, e]
    by_cases hb : 1099511627776 < s + rd l (i : Int)
    · rw [if_pos hb, if_neg (by omega), if_neg (by omega)]
    · rw [if_neg hb, Int.add_assoc]
theorem add_eq (l : List Int) (hl : l.length ≤ 4611686018427387904) (k : Nat) (hk : l.length < k) : num_Add.f k l = some (addV l) := by
  unfold num_Add.f addV
  rw [first_eq]
  simp only [Option.bind_some]
  by_cases h : firstV l = 0
  · rw [if_pos h, if_pos h]
    have := add_l0 l (firstV_ok.1 h) hl l.length k 0 0 (by omega) (by omega) (by omega) hk
    simp only [Int.zero_add, List.drop_zero] at this
    exact this
  · rw [if_neg h, if_neg h]

theorem addV_ok {l : List Int} (h : (addV l).2 = 0) : firstV l = 0 := by
  unfold addV at h
  by_cases hf : firstV l = 0
  · exact hf
  · rw [if_neg hf] at h; exact absurd h hf

/-- Differences, products, quotients. -/
def subV (a b : Int) : Int × Int := if firstV [a, b] = 0 then (if a < b then (0, 10) else (a - b, 0)) else (0, firstV [a, b])
def mulV (a b : Int) : Int × Int := if firstV [a, b] = 0 then (if a * b ≤ 1099511627775 then (a * b, 0) else (0, 11)) else (0, firstV [a, b])
def downV (a b : Int) : Int × Int := if firstV [a, b] = 0 then (if b = 0 then (0, 12) else (a / b, 0)) else (0, firstV [a, b])
def upV (a b : Int) : Int × Int := if firstV [a, b] = 0 then (if b = 0 then (0, 12) else ((a + (b - 1)) / b, 0)) else (0, firstV [a, b])
theorem two_ok {a b : Int} (h : firstV [a, b] = 0) : 0 ≤ a ∧ a ≤ 1099511627775 ∧ 0 ≤ b ∧ b ≤ 1099511627775 := by
  have := firstV_ok.1 h
  have h1 := this a (by simp)
  have h2 := this b (by simp)
  omega
theorem sub_eq (a b : Int) : num_Sub.f a b = some (subV a b) := by
  unfold num_Sub.f subV
  rw [first_eq]
  simp only [Option.bind_some]
  by_cases h : firstV [a, b] = 0
  · obtain ⟨h1, h2, h3, h4⟩ := two_ok h
    rw [if_pos h, if_pos h, w64 (by omega) (by omega)]
    by_cases hab : a < b
    · rw [if_pos hab]
      unfold num_told.f
      rw [check_eq]
      have : code (a - b) = 10 := by unfold code; rw [if_pos (by omega)]
      simp [this]
    · rw [if_neg hab, told_eq (by omega), if_pos (by omega)]
      rfl
  · rw [if_neg h, if_neg h]
theorem down_eq (a b : Int) : num_Down.f a b = some (downV a b) := by
  unfold num_Down.f quotV quotC downV
  by_cases h : firstV [a, b] = 0
  · obtain ⟨h1, h2, h3, h4⟩ := two_ok h
    rw [if_pos h, if_pos h]
    by_cases hb : b = 0
    · rw [if_pos hb, if_pos hb]
    · rw [if_neg hb, if_neg hb, Int.add_zero, w64 (x := a) (by omega) (by omega), Int.tdiv_eq_ediv_of_nonneg h1]
      have h5 : a / b ≤ a := Int.ediv_le_self _ h1
      have h6 : 0 ≤ a / b := Int.ediv_nonneg h1 h3
      rw [w64 (by omega) (by omega)]
  · rw [if_neg h, if_neg h]
theorem up_eq (a b : Int) : num_Up.f a b = some (upV a b) := by
  unfold num_Up.f quotV quotC upV
  by_cases h : firstV [a, b] = 0
  · obtain ⟨h1, h2, h3, h4⟩ := two_ok h
    rw [if_pos h, if_pos h]
    by_cases hb : b = 0
    · rw [if_pos hb, if_pos hb]
    · rw [if_neg hb, if_neg hb, w64 (x := b - 1) (by omega) (by omega), w64 (x := a + (b - 1)) (by omega) (by omega), Int.tdiv_eq_ediv_of_nonneg (by omega)]
      have h5 : (a + (b - 1)) / b ≤ a + (b - 1) := Int.ediv_le_self _ (by omega)
      have h6 : 0 ≤ (a + (b - 1)) / b := Int.ediv_nonneg (by omega) h3
      rw [w64 (by omega) (by omega)]
  · rw [if_neg h, if_neg h]
theorem and_low (a : Nat) (ha : a < 18446744073709551616) : Go.bits .and .u64 (a : Int) 4294967295 = ((a % 4294967296 : Nat) : Int) := by
  have := and_u64_nat a 4294967295 ha (by omega)
  rw [show ((4294967295 : Nat) : Int) = 4294967295 from rfl] at this
  rw [this]
  have : a &&& 4294967295 = a % 2 ^ 32 := Nat.and_two_pow_sub_one_eq_mod a 32
  rw [this]
theorem mul64_parts (p00 p01 p10 p11 : Int) (h00 : 0 ≤ p00) (h01 : 0 ≤ p01) (h10 : 0 ≤ p10) (h11 : 0 ≤ p11) (l00 : p00 ≤ 18446744065119617025) (l01 : p01 ≤ 1095216660225) (l10 : p10 ≤ 1095216660225) (l11 : p11 ≤ 65025) :
    IntKind.u64.wrap ((IntKind.u64.wrap ((IntKind.u64.wrap p11) + ((IntKind.u64.wrap ((IntKind.u64.wrap p10) + ((IntKind.u64.wrap p00) / 4294967296))) / 4294967296))) + ((IntKind.u64.wrap (((IntKind.u64.wrap ((IntKind.u64.wrap p10) + ((IntKind.u64.wrap p00) / 4294967296))) % 4294967296) + (IntKind.u64.wrap p01))) / 4294967296)) =
      (p11 * 18446744073709551616 + (p10 + p01) * 4294967296 + p00) / 18446744073709551616 := by
  rw [wu64 h11 (by omega), wu64 h10 (by omega), wu64 h00 (by omega), wu64 h01 (by omega)]
  obtain ⟨a, r0, ea, ha0, ha1, hr0, hr1⟩ : ∃ a r0, p00 / 4294967296 = a ∧ 0 ≤ a ∧ a ≤ 4294967295 ∧ 0 ≤ r0 ∧ (r0 < 4294967296 ∧ p00 = 4294967296 * a + r0) := ⟨_, p00 % 4294967296, rfl, by omega, by omega, by omega, by omega, by omega⟩
  rw [ea, wu64 (x := p10 + a) (by omega) (by omega)]
  obtain ⟨w2, t0, ew, et, hw0, ht0, ht1⟩ : ∃ w2 t0, (p10 + a) / 4294967296 = w2 ∧ (p10 + a) % 4294967296 = t0 ∧ (0 ≤ w2 ∧ w2 ≤ 1000) ∧ (0 ≤ t0 ∧ t0 < 4294967296) ∧ p10 + a = 4294967296 * w2 + t0 := ⟨_, _, rfl, rfl, by omega, by omega, by omega⟩
  rw [ew, et, wu64 (x := p11 + w2) (by omega) (by omega), wu64 (x := t0 + p01) (by omega) (by omega)]
  obtain ⟨c, s0, ec, hc0, hs0, hs1⟩ : ∃ c s0, (t0 + p01) / 4294967296 = c ∧ (0 ≤ c ∧ c ≤ 1000) ∧ (0 ≤ s0 ∧ s0 < 4294967296) ∧ t0 + p01 = 4294967296 * c + s0 := ⟨_, (t0 + p01) % 4294967296, rfl, by omega, by omega, by omega⟩
  rw [ec, wu64 (by omega) (by omega)]
  clear ea ew et ec
  have e : p11 * 18446744073709551616 + (p10 + p01) * 4294967296 + p00 = (s0 * 4294967296 + r0) + (p11 + w2 + c) * 18446744073709551616 := by omega
  rw [e, Int.add_mul_ediv_right _ _ (by decide), Int.ediv_eq_zero_of_lt (by omega) (by omega)]
  omega
theorem mul64_eq (a b : Int) (h1 : 0 ≤ a) (h2 : a ≤ 1099511627775) (h3 : 0 ≤ b) (h4 : b ≤ 1099511627775) : bits_Mul64.f a b = some ((a * b) / 18446744073709551616, (a * b) % 18446744073709551616) := by
  obtain ⟨x, rfl⟩ := Int.eq_ofNat_of_zero_le h1
  obtain ⟨y, rfl⟩ := Int.eq_ofNat_of_zero_le h3
  unfold bits_Mul64.f
  rw [and_low x (by omega), and_low y (by omega)]
  have ex : (x : Int) = (x / 4294967296 : Nat) * 4294967296 + (x % 4294967296 : Nat) := by omega
  have ey : (y : Int) = (y / 4294967296 : Nat) * 4294967296 + (y % 4294967296 : Nat) := by omega
  have dx : (x : Int) / 4294967296 = ((x / 4294967296 : Nat) : Int) := by omega
  have dy : (y : Int) / 4294967296 = ((y / 4294967296 : Nat) : Int) := by omega
  have lx1 : ((x / 4294967296 : Nat) : Int) ≤ 255 := by omega
  have ly1 : ((y / 4294967296 : Nat) : Int) ≤ 255 := by omega
  have lx0 : ((x % 4294967296 : Nat) : Int) ≤ 4294967295 := by omega
  have ly0 : ((y % 4294967296 : Nat) : Int) ≤ 4294967295 := by omega
  have exy : (x : Int) * (y : Int) = (((x / 4294967296 : Nat) : Int) * ((y / 4294967296 : Nat) : Int)) * 18446744073709551616 + ((((x / 4294967296 : Nat) : Int) * ((y % 4294967296 : Nat) : Int)) + (((x % 4294967296 : Nat) : Int) * ((y / 4294967296 : Nat) : Int))) * 4294967296 + (((x % 4294967296 : Nat) : Int) * ((y % 4294967296 : Nat) : Int)) := by
    conv => lhs; rw [ex, ey]
    generalize ((x / 4294967296 : Nat) : Int) = x1
    generalize ((y / 4294967296 : Nat) : Int) = y1
    generalize ((x % 4294967296 : Nat) : Int) = x0
    generalize ((y % 4294967296 : Nat) : Int) = y0
    simp only [Int.add_mul, Int.mul_add]
    rw [show x1 * 4294967296 * (y1 * 4294967296) = x1 * y1 * 18446744073709551616 from by rw [Int.mul_assoc, Int.mul_comm 4294967296 (y1 * 4294967296), Int.mul_assoc, ← Int.mul_assoc x1]; rfl,
      show x1 * 4294967296 * y0 = x1 * y0 * 4294967296 from by rw [Int.mul_assoc, Int.mul_comm 4294967296, ← Int.mul_assoc], ← Int.mul_assoc x0]
    omega
  rw [dx, dy]
  have z1 : (0 : Int) ≤ ((x / 4294967296 : Nat) : Int) := by omega
  have z2 : (0 : Int) ≤ ((y / 4294967296 : Nat) : Int) := by omega
  have z3 : (0 : Int) ≤ ((x % 4294967296 : Nat) : Int) := by omega
  have z4 : (0 : Int) ≤ ((y % 4294967296 : Nat) : Int) := by omega
  have b11 := Int.mul_le_mul lx1 ly1 z2 (by omega)
  have b10 := Int.mul_le_mul lx1 ly0 z4 (by omega)
  have b01 := Int.mul_le_mul lx0 ly1 z2 (by omega)
  have b00 := Int.mul_le_mul lx0 ly0 z4 (by omega)
  have n11 := Int.mul_nonneg z1 z2
  have n10 := Int.mul_nonneg z1 z4
  have n01 := Int.mul_nonneg z3 z2
  have n00 := Int.mul_nonneg z3 z4
  rw [wrap_u64_ ((x : Int) * (y : Int))]
  rw [exy]
  generalize ((x / 4294967296 : Nat) : Int) * ((y / 4294967296 : Nat) : Int) = p11 at *
  generalize ((x / 4294967296 : Nat) : Int) * ((y % 4294967296 : Nat) : Int) = p10 at *
  generalize ((x % 4294967296 : Nat) : Int) * ((y / 4294967296 : Nat) : Int) = p01 at *
  generalize ((x % 4294967296 : Nat) : Int) * ((y % 4294967296 : Nat) : Int) = p00 at *
  have hm : Go.bits .and .u64 (IntKind.u64.wrap (IntKind.u64.wrap p10 + IntKind.u64.wrap p00 / 4294967296)) 4294967295 = (IntKind.u64.wrap (IntKind.u64.wrap p10 + IntKind.u64.wrap p00 / 4294967296)) % 4294967296 := by
    have e : IntKind.u64.wrap (IntKind.u64.wrap p10 + IntKind.u64.wrap p00 / 4294967296) = p10 + p00 / 4294967296 := by
      rw [wu64 n10 (by omega), wu64 n00 (by omega), wu64 (by omega) (by omega)]
    rw [e]
    obtain ⟨t, ht⟩ := Int.eq_ofNat_of_zero_le (show 0 ≤ p10 + p00 / 4294967296 by omega)
    rw [ht, and_low t (by omega)]
    omega
  rw [hm, mul64_parts p00 p01 p10 p11 n00 n01 n10 n11 (by omega) (by omega) (by omega) (by omega)]
theorem mul_eq (a b : Int) : num_Mul.f a b = some (mulV a b) := by
  unfold num_Mul.f mulV
  rw [first_eq]
  simp only [Option.bind_some]
  by_cases h : firstV [a, b] = 0
  · obtain ⟨h1, h2, h3, h4⟩ := two_ok h
    have hp := Int.mul_nonneg h1 h3
    have hu := Int.mul_le_mul h2 h4 h3 (by omega)
    rw [if_pos h, if_pos h, wu64 h1 (by omega), wu64 h3 (by omega), mul64_eq a b h1 h2 h3 h4]
    simp only [Option.bind_some]
    generalize a * b = p at *
    by_cases hs : p ≤ 1099511627775
    · rw [if_neg (by omega), if_neg (by omega), if_pos hs, show p % 18446744073709551616 = p from by omega, w64 (by omega) (by omega)]
    · rw [if_neg hs]
      by_cases hh : p / 18446744073709551616 > 0
      · rw [if_pos hh]
      · rw [if_neg hh, if_pos (by omega)]
  · rw [if_neg h, if_neg h]

/-- Powers of two. -/
def twoV (a : Int) : Int × Bool := match (List.range 40).find? (fun k => decide ((2 : Int) ^ k = a)) with
  | some k => ((k : Int), true)
  | none => (0, false)
theorem twoV_pow : ∀ k : Nat, k < 40 → twoV ((2 : Int) ^ k) = ((k : Int), true) := by decide +kernel
theorem twoV_no {a : Int} (h : ∀ k : Nat, k < 40 → (2 : Int) ^ k ≠ a) : twoV a = (0, false) := by
  unfold twoV
  rw [List.find?_eq_none.2 (fun k hk => by simpa using h k (by simpa using hk))]
theorem ones1 (x y1 : Nat) (hx : x < 18446744073709551616) (h1 : y1 = (x / 2 &&& 6148914691236517205) + (x &&& 6148914691236517205)) (l1 : y1 < 18446744073709551616) :
    IntKind.u64.wrap ((Go.bits .and .u64 ((x : Int) / 2) 6148914691236517205) + (Go.bits .and .u64 (x : Int) 6148914691236517205)) = (y1 : Int) := by
  have a1 := and_u64_nat (x / 2) 6148914691236517205 (by omega) (by omega)
  have a2 := and_u64_nat x 6148914691236517205 hx (by omega)
  rw [show ((6148914691236517205 : Nat) : Int) = 6148914691236517205 from rfl] at a1 a2
  rw [show (x : Int) / 2 = ((x / 2 : Nat) : Int) from by omega, a1, a2]
  generalize x / 2 &&& 6148914691236517205 = p at *
  generalize x &&& 6148914691236517205 = q at *
  rw [wu64 (by omega) (by omega)]
  omega
theorem ones2 (x y1 : Nat) (hx : x < 18446744073709551616) (h1 : y1 = (x / 4 &&& 3689348814741910323) + (x &&& 3689348814741910323)) (l1 : y1 < 18446744073709551616) :
    IntKind.u64.wrap ((Go.bits .and .u64 ((x : Int) / 4) 3689348814741910323) + (Go.bits .and .u64 (x : Int) 3689348814741910323)) = (y1 : Int) := by
  have a1 := and_u64_nat (x / 4) 3689348814741910323 (by omega) (by omega)
  have a2 := and_u64_nat x 3689348814741910323 hx (by omega)
  rw [show ((3689348814741910323 : Nat) : Int) = 3689348814741910323 from rfl] at a1 a2
  rw [show (x : Int) / 4 = ((x / 4 : Nat) : Int) from by omega, a1, a2]
  generalize x / 4 &&& 3689348814741910323 = p at *
  generalize x &&& 3689348814741910323 = q at *
  rw [wu64 (by omega) (by omega)]
  omega
theorem ones3 (y2 y3 : Nat) (h3 : y3 = (y2 / 16 + y2) &&& 1085102592571150095) (ls : y2 / 16 + y2 < 18446744073709551616) :
    Go.bits .and .u64 (IntKind.u64.wrap ((y2 : Int) / 16 + (y2 : Int))) 1085102592571150095 = (y3 : Int) := by
  have a1 := and_u64_nat (y2 / 16 + y2) 1085102592571150095 ls (by omega)
  rw [show ((1085102592571150095 : Nat) : Int) = 1085102592571150095 from rfl] at a1
  rw [show (y2 : Int) / 16 + (y2 : Int) = ((y2 / 16 + y2 : Nat) : Int) from by omega, wu64 (by omega) (by omega), a1, ← h3]
theorem ones4 (m y3 y4 : Nat) (h4 : y4 = y3 + y3 / m) (l4 : y4 < 9223372036854775808) : IntKind.u64.wrap ((y3 : Int) + (y3 : Int) / (m : Int)) = (y4 : Int) := by
  rw [show (y3 : Int) / (m : Int) = ((y3 / m : Nat) : Int) from by simp]
  generalize y3 / m = q at *
  rw [wu64 (by omega) (by omega)]
  omega
theorem ones6 (y6 : Nat) (l6 : y6 < 9223372036854775808) : Go.bits .and .i64 (y6 : Int) 127 = ((y6 % 128 : Nat) : Int) := by
  have o1 : (BitVec.ofInt 64 (y6 : Int)).toNat = y6 := by
    rw [BitVec.ofInt_natCast, BitVec.toNat_ofNat]; exact Nat.mod_eq_of_lt (by omega)
  show IntKind.i64.wrap ((BitVec.ofInt 64 (y6 : Int) &&& BitVec.ofInt 64 127).toNat : Int) = _
  rw [BitVec.toNat_and, o1, show (BitVec.ofInt 64 127).toNat = 127 from by decide]
  have := Nat.and_two_pow_sub_one_eq_mod y6 7
  rw [show y6 &&& 127 = y6 % 128 from this, IntKind.wrap_i64]
  omega
theorem ones_eq (x : Nat) (hx : x < 18446744073709551616) : bits_OnesCount64.f (x : Int) = some ((Pop.sum8 Pop.pop8 x : Nat) : Int) := by
  obtain ⟨y1, h1⟩ : ∃ y1, y1 = (x / 2 &&& 6148914691236517205) + (x &&& 6148914691236517205) := ⟨_, rfl⟩
  obtain ⟨y2, h2⟩ : ∃ y2, y2 = (y1 / 4 &&& 3689348814741910323) + (y1 &&& 3689348814741910323) := ⟨_, rfl⟩
  obtain ⟨y3, h3⟩ : ∃ y3, y3 = (y2 / 16 + y2) &&& 1085102592571150095 := ⟨_, rfl⟩
  obtain ⟨y4, h4⟩ : ∃ y4, y4 = y3 + y3 / 256 := ⟨_, rfl⟩
  obtain ⟨y5, h5⟩ : ∃ y5, y5 = y4 + y4 / 65536 := ⟨_, rfl⟩
  obtain ⟨y6, h6⟩ : ∃ y6, y6 = y5 + y5 / 4294967296 := ⟨_, rfl⟩
  obtain ⟨hb, l1, l2, ls⟩ := Pop.stages x y1 y2 y3 hx h1 h2 h3
  rw [Pop.bytes_eq] at hb
  obtain ⟨hr, l4, l5, l6⟩ := Pop.last _ _ _ _ _ _ _ _ y3 y4 y5 y6 (Pop.pop8_le _) (Pop.pop8_le _) (Pop.pop8_le _) (Pop.pop8_le _) (Pop.pop8_le _) (Pop.pop8_le _) (Pop.pop8_le _) (Pop.pop8_le _) hb h4 h5 h6
  have e1 := ones1 x y1 hx h1 l1
  have e2 := ones2 y1 y2 l1 h2 l2
  have e3 := ones3 y2 y3 h3 ls
  have e4 : IntKind.u64.wrap ((y3 : Int) + (y3 : Int) / 256) = (y4 : Int) := ones4 256 y3 y4 h4 l4
  have e5 : IntKind.u64.wrap ((y4 : Int) + (y4 : Int) / 65536) = (y5 : Int) := ones4 65536 y4 y5 h5 l5
  have e6 : IntKind.u64.wrap ((y5 : Int) + (y5 : Int) / 4294967296) = (y6 : Int) := ones4 4294967296 y5 y6 h6 l6
  have e7 := ones6 y6 l6
  have e8 : wrap64 (y6 : Int) = (y6 : Int) := by clear h1 h2 h3 h4 h5 h6 hb hr e1 e2 e3 e4 e5 e6 e7; exact w64 (by omega) (by omega)
  clear hb h1 h2 h3 h4 h5 h6
  unfold bits_OnesCount64.f
  rw [e1, e2, e3, e4, e5, e6, e8, e7, hr]
  rfl
theorem two_eq (a : Int) : num_Two.f a = some (twoV a) := by
  unfold num_Two.f
  rw [check_eq]
  simp only [Option.bind_some]
  by_cases hc : code a = 0
  · obtain ⟨h0, h1⟩ := code_ok.1 hc
    obtain ⟨x, rfl⟩ := Int.eq_ofNat_of_zero_le h0
    rw [if_pos hc, wu64 h0 (by omega)]
    unfold bits_OnesCount.f
    rw [ones_eq x (by omega)]
    simp only [Option.bind_some]
    by_cases hp : Pop.sum8 Pop.pop8 x = 1
    · obtain ⟨k, hk, rfl⟩ := Pop.one_bit x (by omega) hp
      obtain ⟨_, ht, _⟩ := Pop.bit_one k hk
      rw [if_pos (by omega)]
      unfold bits_TrailingZeros.f
      have hpos : 0 < 2 ^ k := Nat.two_pow_pos k
      rw [if_pos ⟨by omega, by omega⟩, Int.toNat_natCast, ht]
      have := twoV_pow k hk
      rw [show ((2 : Int) ^ k) = ((2 ^ k : Nat) : Int) from by simp] at this
      rw [this]
      rfl
    · rw [if_neg (by omega), twoV_no]
      intro k hk he
      have e : x = 2 ^ k := by
        have : ((2 ^ k : Nat) : Int) = (x : Int) := by simpa using he
        omega
      exact hp (e ▸ (Pop.bit_one k hk).1)
  · rw [if_neg hc, twoV_no]
    intro k hk he
    obtain ⟨_, _, hl⟩ := Pop.bit_one k hk
    have e : ((2 ^ k : Nat) : Int) = a := by simpa using he
    generalize 2 ^ k = p at hl e
    exact hc (code_ok.2 ⟨by omega, by omega⟩)
theorem pow_succ_int (j : Nat) : (2 : Int) ^ (j + 1) = 2 * 2 ^ j := by rw [Int.pow_succ, Int.mul_comm]
theorem pow_pos_int (j : Nat) : (0 : Int) < 2 ^ j := Int.pow_pos (by decide)
end Go.Proofs.YtgohgmjfanmbeaaDoor.Q
