/- Plain facts: counting the bits of a number the way math/bits does, and numbers that are powers of two. No Go in it. -/
import Derived.Test.YtdmgigicbppjkaaDoorWWords
import Derived.Lib.TrailingZeros
namespace Go.Proofs.YtdmgigicbppjkaaDoor.Pop
open Go.RowKit

/-- The bits of a byte. -/
def pop8 (b : Nat) : Nat := b % 2 + b / 2 % 2 + b / 4 % 2 + b / 8 % 2 + b / 16 % 2 + b / 32 % 2 + b / 64 % 2 + b / 128 % 2
def st1 (b : Nat) : Nat := (b / 2 &&& 85) + (b &&& 85)
def st2 (b : Nat) : Nat := (b / 4 &&& 51) + (b &&& 51)
theorem st1_lt : ∀ b, b < 256 → st1 b < 256 := by decide +kernel
theorem st2_st1_lt : ∀ b, b < 256 → st2 (st1 b) < 256 := by decide +kernel
theorem st3_ok : ∀ b, b < 256 → (st2 (st1 b) / 16 + st2 (st1 b)) &&& 15 = pop8 b ∧ st2 (st1 b) % 16 ≤ 4 ∧ st2 (st1 b) / 16 ≤ 4 := by decide +kernel
theorem low1 : ∀ c, c < 2 → ∀ r, r < 256 → (128 * c + r / 2) &&& 85 = r / 2 &&& 85 := by decide +kernel
theorem low2 : ∀ c, c < 4 → ∀ r, r < 256 → (64 * c + r / 4) &&& 51 = r / 4 &&& 51 := by decide +kernel
theorem low3 : ∀ c, c < 16 → ∀ s, s < 75 → (16 * c + s) &&& 15 = s &&& 15 := by decide +kernel

theorem and_split (q r M m : Nat) (hr : r < 256) (hm : m < 256) : (256 * q + r) &&& (256 * M + m) = 256 * (q &&& M) + (r &&& m) := by
  have h : ∀ x y : Nat, y < 256 → 256 * x + y = 2 ^ 8 * x ||| y := fun x y hy => (Nat.two_pow_add_eq_or_of_lt (i := 8) hy x)
  have hrm : r &&& m < 256 := Nat.lt_of_le_of_lt Nat.and_le_left hr
  rw [h q r hr, h M m hm, h _ _ hrm]
  apply Nat.eq_of_testBit_eq
  intro i
  simp only [Nat.testBit_and, Nat.testBit_or, Nat.testBit_two_pow_mul]
  by_cases hi : 8 ≤ i
  · have h1 : r.testBit i = false := Nat.testBit_lt_two_pow (Nat.lt_of_lt_of_le hr (Nat.pow_le_pow_right (by decide : 0 < 2) hi : 2 ^ 8 ≤ 2 ^ i))
    have h2 : m.testBit i = false := Nat.testBit_lt_two_pow (Nat.lt_of_lt_of_le hm (Nat.pow_le_pow_right (by decide : 0 < 2) hi : 2 ^ 8 ≤ 2 ^ i))
    simp [hi, h1, h2]
  · simp [hi]

/-- The mask of n bytes m. -/
def mask (m : Nat) : Nat → Nat
  | 0 => 0
  | n + 1 => 256 * mask m n + m
/-- f, byte by byte. -/
def bytewise (f : Nat → Nat) : Nat → Nat → Nat
  | 0, _ => 0
  | n + 1, x => 256 * bytewise f n (x / 256) + f (x % 256)

theorem stage1 : ∀ (n x : Nat), x < 256 ^ n → (x / 2 &&& mask 85 n) + (x &&& mask 85 n) = bytewise st1 n x
  | 0, x, _ => by simp [mask, bytewise]
  | n + 1, x, h => by
    have hq : x / 256 < 256 ^ n := by rw [Nat.pow_succ] at h; omega
    have ih := stage1 n (x / 256) hq
    have e1 : x / 2 = 256 * (x / 256 / 2) + (128 * (x / 256 % 2) + x % 256 / 2) := by omega
    have e2 : x = 256 * (x / 256) + x % 256 := by omega
    have hb : x % 256 < 256 := by omega
    show (x / 2 &&& (256 * mask 85 n + 85)) + (x &&& (256 * mask 85 n + 85)) = 256 * bytewise st1 n (x / 256) + st1 (x % 256)
    rw [e1, and_split _ _ _ _ (by omega) (by omega), low1 _ (by omega) _ hb, ← ih]
    conv => lhs; rhs; rw [e2]
    rw [and_split _ _ _ _ hb (by omega)]
    unfold st1
    omega
theorem stage2 : ∀ (n x : Nat), x < 256 ^ n → (x / 4 &&& mask 51 n) + (x &&& mask 51 n) = bytewise st2 n x
  | 0, x, _ => by simp [mask, bytewise]
  | n + 1, x, h => by
    have hq : x / 256 < 256 ^ n := by rw [Nat.pow_succ] at h; omega
    have ih := stage2 n (x / 256) hq
    have e1 : x / 4 = 256 * (x / 256 / 4) + (64 * (x / 256 % 4) + x % 256 / 4) := by omega
    have e2 : x = 256 * (x / 256) + x % 256 := by omega
    have hb : x % 256 < 256 := by omega
    show (x / 4 &&& (256 * mask 51 n + 51)) + (x &&& (256 * mask 51 n + 51)) = 256 * bytewise st2 n (x / 256) + st2 (x % 256)
    rw [e1, and_split _ _ _ _ (by omega) (by omega), low2 _ (by omega) _ hb, ← ih]
    conv => lhs; rhs; rw [e2]
    rw [and_split _ _ _ _ hb (by omega)]
    unfold st2
    omega
/-- Each byte's nibbles are small. -/
def nib : Nat → Nat → Prop
  | 0, _ => True
  | n + 1, x => x % 256 % 16 ≤ 4 ∧ x % 256 / 16 ≤ 4 ∧ nib n (x / 256)
def st3 (b : Nat) : Nat := (b / 16 + b) &&& 15
theorem stage3 : ∀ (n x : Nat), x < 256 ^ n → nib n x → (x / 16 + x) &&& mask 15 n = bytewise st3 n x
  | 0, x, _, _ => by simp [mask, bytewise]
  | n + 1, x, h, hn => by
    obtain ⟨h1, h2, h3⟩ := hn
    have hq : x / 256 < 256 ^ n := by rw [Nat.pow_succ] at h; omega
    have ih := stage3 n (x / 256) hq h3
    have hc : x / 256 % 16 ≤ 4 := by
      cases n with
      | zero => simp at hq; omega
      | succ m => have := h3.1; omega
    have e1 : x / 16 + x = 256 * (x / 256 / 16 + x / 256) + (16 * (x / 256 % 16) + (x % 256 / 16 + x % 256)) := by omega
    show (x / 16 + x) &&& (256 * mask 15 n + 15) = 256 * bytewise st3 n (x / 256) + st3 (x % 256)
    rw [e1, and_split _ _ _ _ (by omega) (by omega), low3 _ (by omega) _ (by omega), ih]
    rfl
theorem bytewise_lt {f : Nat → Nat} (hf : ∀ b, b < 256 → f b < 256) : ∀ (n x : Nat), bytewise f n x < 256 ^ n
  | 0, _ => by simp [bytewise]
  | n + 1, x => by
    have := bytewise_lt hf n (x / 256)
    have := hf (x % 256) (by omega)
    show 256 * bytewise f n (x / 256) + f (x % 256) < 256 ^ (n + 1)
    rw [Nat.pow_succ]
    omega
theorem bytewise_comp {f g : Nat → Nat} (hf : ∀ b, b < 256 → f b < 256) : ∀ (n x : Nat), bytewise g n (bytewise f n x) = bytewise (fun b => g (f b)) n x
  | 0, _ => rfl
  | n + 1, x => by
    have h := hf (x % 256) (by omega)
    have e1 : (256 * bytewise f n (x / 256) + f (x % 256)) / 256 = bytewise f n (x / 256) := by omega
    have e2 : (256 * bytewise f n (x / 256) + f (x % 256)) % 256 = f (x % 256) := by omega
    show 256 * bytewise g n ((256 * bytewise f n (x / 256) + f (x % 256)) / 256) + g ((256 * bytewise f n (x / 256) + f (x % 256)) % 256) = 256 * bytewise (fun b => g (f b)) n (x / 256) + g (f (x % 256))
    rw [e1, e2, bytewise_comp hf n]
theorem bytewise_congr {f g : Nat → Nat} (h : ∀ b, b < 256 → f b = g b) : ∀ (n x : Nat), bytewise f n x = bytewise g n x
  | 0, _ => rfl
  | n + 1, x => by
    show 256 * bytewise f n (x / 256) + f (x % 256) = 256 * bytewise g n (x / 256) + g (x % 256)
    rw [bytewise_congr h n, h _ (by omega)]
theorem nib_12 : ∀ (n x : Nat), nib n (bytewise (fun b => st2 (st1 b)) n x)
  | 0, _ => trivial
  | n + 1, x => by
    obtain ⟨_, h1, h2⟩ := st3_ok (x % 256) (by omega)
    have h3 := st2_st1_lt (x % 256) (by omega)
    have e1 : (256 * bytewise (fun b => st2 (st1 b)) n (x / 256) + st2 (st1 (x % 256))) / 256 = bytewise (fun b => st2 (st1 b)) n (x / 256) := by omega
    have e2 : (256 * bytewise (fun b => st2 (st1 b)) n (x / 256) + st2 (st1 (x % 256))) % 256 = st2 (st1 (x % 256)) := by omega
    refine ⟨?_, ?_, ?_⟩
    · show (256 * bytewise (fun b => st2 (st1 b)) n (x / 256) + st2 (st1 (x % 256))) % 256 % 16 ≤ 4
      rw [e2]; exact h1
    · show (256 * bytewise (fun b => st2 (st1 b)) n (x / 256) + st2 (st1 (x % 256))) % 256 / 16 ≤ 4
      rw [e2]; exact h2
    · show nib n ((256 * bytewise (fun b => st2 (st1 b)) n (x / 256) + st2 (st1 (x % 256))) / 256)
      rw [e1]; exact nib_12 n _
theorem nib_lt : ∀ (n x : Nat), nib (n + 1) x → x < 256 ^ (n + 1) → x < 69 * 256 ^ n
  | 0, x, h, hx => by
    have h1 := h.1
    have h2 := h.2.1
    simp at hx
    omega
  | n + 1, x, h, hx => by
    have hq : x / 256 < 256 ^ (n + 1) := by rw [Nat.pow_succ] at hx; omega
    have := nib_lt n (x / 256) h.2.2 hq
    rw [Nat.pow_succ]
    omega
/-- The three stages together: a byte for each byte's number of bits. -/
theorem stages (x y1 y2 y3 : Nat) (hx : x < 2 ^ 64) (h1 : y1 = (x / 2 &&& 6148914691236517205) + (x &&& 6148914691236517205)) (h2 : y2 = (y1 / 4 &&& 3689348814741910323) + (y1 &&& 3689348814741910323))
    (h3 : y3 = (y2 / 16 + y2) &&& 1085102592571150095) : y3 = bytewise pop8 8 x ∧ y1 < 2 ^ 64 ∧ y2 < 2 ^ 64 ∧ y2 / 16 + y2 < 2 ^ 64 := by
  have m1 : mask 85 8 = 6148914691236517205 := by decide
  have m2 : mask 51 8 = 3689348814741910323 := by decide
  have m3 : mask 15 8 = 1085102592571150095 := by decide
  have p : (256 : Nat) ^ 8 = 2 ^ 64 := by decide
  have e1 : y1 = bytewise st1 8 x := by rw [h1, ← m1]; exact stage1 8 x (by rw [p]; exact hx)
  have l1 : y1 < 256 ^ 8 := by rw [e1]; exact bytewise_lt st1_lt 8 x
  have e2 : y2 = bytewise (fun b => st2 (st1 b)) 8 x := by rw [h2, ← m2, stage2 8 y1 l1, e1, bytewise_comp st1_lt]
  have l2 : y2 < 256 ^ 8 := by rw [e2]; exact bytewise_lt st2_st1_lt 8 x
  have n2 : nib 8 y2 := by rw [e2]; exact nib_12 8 x
  have e3 : y3 = bytewise st3 8 y2 := by rw [h3, ← m3]; exact stage3 8 y2 l2 n2
  have hs : y2 / 16 + y2 < 2 ^ 64 := by
    have := nib_lt 7 y2 n2 l2
    have : (256 : Nat) ^ 7 = 72057594037927936 := by decide
    omega
  refine ⟨?_, by omega, by omega, hs⟩
  rw [e3, e2, bytewise_comp st2_st1_lt]
  exact bytewise_congr (fun b hb => (st3_ok b hb).1) 8 x
/-- The bytes added up. -/
def sum8 (f : Nat → Nat) (x : Nat) : Nat := f (x % 256) + f (x / 256 % 256) + f (x / 65536 % 256) + f (x / 16777216 % 256) + f (x / 4294967296 % 256) + f (x / 1099511627776 % 256) + f (x / 281474976710656 % 256) + f (x / 72057594037927936 % 256)
theorem pop8_le (b : Nat) : pop8 b ≤ 8 := by unfold pop8; omega
theorem bytes_eq (f : Nat → Nat) (x : Nat) : bytewise f 8 x = f (x % 256) + 256 * f (x / 256 % 256) + 65536 * f (x / 65536 % 256) + 16777216 * f (x / 16777216 % 256) + 4294967296 * f (x / 4294967296 % 256) + 1099511627776 * f (x / 1099511627776 % 256) + 281474976710656 * f (x / 281474976710656 % 256) + 72057594037927936 * f (x / 72057594037927936 % 256) := by
  simp only [bytewise, Nat.div_div_eq_div_mul]
  simp only [Nat.reduceMul]
  omega
theorem cut8 (d r y : Nat) (hd : d < 256) (e : y = d + 256 * r) : y / 256 = r := by omega
theorem cut16 (d r y : Nat) (hd : d < 65536) (e : y = d + 65536 * r) : y / 65536 = r := by omega
theorem cut32 (d r y : Nat) (hd : d < 4294967296) (e : y = d + 4294967296 * r) : y / 4294967296 = r := by omega
/-- The last three stages add the bytes up. -/
theorem last (c0 c1 c2 c3 c4 c5 c6 c7 y3 y4 y5 y6 : Nat) (h0 : c0 ≤ 8) (h1 : c1 ≤ 8) (h2 : c2 ≤ 8) (h3 : c3 ≤ 8) (h4 : c4 ≤ 8) (h5 : c5 ≤ 8) (h6 : c6 ≤ 8) (h7 : c7 ≤ 8)
    (e3 : y3 = c0 + 256 * c1 + 65536 * c2 + 16777216 * c3 + 4294967296 * c4 + 1099511627776 * c5 + 281474976710656 * c6 + 72057594037927936 * c7)
    (e4 : y4 = y3 + y3 / 256) (e5 : y5 = y4 + y4 / 65536) (e6 : y6 = y5 + y5 / 4294967296) :
    y6 % 128 = c0 + c1 + c2 + c3 + c4 + c5 + c6 + c7 ∧ y4 < 2 ^ 63 ∧ y5 < 2 ^ 63 ∧ y6 < 2 ^ 63 := by
  have a3 := cut8 c0 (c1 + 256 * c2 + 65536 * c3 + 16777216 * c4 + 4294967296 * c5 + 1099511627776 * c6 + 281474976710656 * c7) y3 (by clear e3 e4 e5 e6; omega) (by clear e4 e5 e6; omega)
  rw [a3] at e4
  clear a3
  rw [e3] at e4
  clear e3
  have a4 := cut16 ((c0 + c1) + 256 * (c1 + c2)) ((c2 + c3) + 256 * (c3 + c4) + 65536 * (c4 + c5) + 16777216 * (c5 + c6) + 4294967296 * (c6 + c7) + 1099511627776 * c7) y4 (by clear e4 e5 e6; omega) (by clear e5 e6; omega)
  rw [a4] at e5
  clear a4
  have a5 := cut32 ((c0 + c1 + c2 + c3) + 256 * (c1 + c2 + c3 + c4) + 65536 * (c2 + c3 + c4 + c5) + 16777216 * (c3 + c4 + c5 + c6)) ((c4 + c5 + c6 + c7) + 256 * (c5 + c6 + c7) + 65536 * (c6 + c7) + 16777216 * c7) y5 (by clear e4 e5 e6; omega) (by clear e6; omega)
  rw [a5] at e6
  clear a5
  refine ⟨?_, by clear e5 e6; omega, by clear e6; omega, by omega⟩
  obtain ⟨s, hs⟩ : ∃ s, s = c0 + c1 + c2 + c3 + c4 + c5 + c6 + c7 := ⟨_, rfl⟩
  obtain ⟨u, hu⟩ : ∃ u, y6 = s + 256 * u := ⟨(c1 + c2 + c3 + c4 + (c5 + c6 + c7)) + 256 * (c2 + c3 + c4 + c5 + (c6 + c7)) + 65536 * (c3 + c4 + c5 + c6 + c7) + 16777216 * (c4 + c5 + c6 + c7) + 4294967296 * (c5 + c6 + c7) + 1099511627776 * (c6 + c7) + 281474976710656 * c7, by omega⟩
  rw [← hs]
  clear e4 e5 e6
  omega
theorem pop8_zero : ∀ b, b < 256 → pop8 b = 0 → b = 0 := by decide +kernel
theorem pop8_one : ∀ b, b < 256 → pop8 b = 1 → b = 1 ∨ b = 2 ∨ b = 4 ∨ b = 8 ∨ b = 16 ∨ b = 32 ∨ b = 64 ∨ b = 128 := by decide +kernel
theorem pw (x : Nat) : ∀ b m, (b = 1 ∨ b = 2 ∨ b = 4 ∨ b = 8 ∨ b = 16 ∨ b = 32 ∨ b = 64 ∨ b = 128) → x = m * b → ∃ j, j < 8 ∧ x = m * 2 ^ j := by
  intro b m hb hxb
  rcases hb with rfl | rfl | rfl | rfl | rfl | rfl | rfl | rfl
  · exact ⟨0, by decide, hxb⟩
  · exact ⟨1, by decide, hxb⟩
  · exact ⟨2, by decide, hxb⟩
  · exact ⟨3, by decide, hxb⟩
  · exact ⟨4, by decide, hxb⟩
  · exact ⟨5, by decide, hxb⟩
  · exact ⟨6, by decide, hxb⟩
  · exact ⟨7, by decide, hxb⟩
theorem five (p0 p1 p2 p3 p4 : Nat) (h : p0 + p1 + p2 + p3 + p4 = 1) : (p0 = 1 ∧ p1 = 0 ∧ p2 = 0 ∧ p3 = 0 ∧ p4 = 0) ∨ (p0 = 0 ∧ p1 = 1 ∧ p2 = 0 ∧ p3 = 0 ∧ p4 = 0) ∨ (p0 = 0 ∧ p1 = 0 ∧ p2 = 1 ∧ p3 = 0 ∧ p4 = 0) ∨ (p0 = 0 ∧ p1 = 0 ∧ p2 = 0 ∧ p3 = 1 ∧ p4 = 0) ∨ (p0 = 0 ∧ p1 = 0 ∧ p2 = 0 ∧ p3 = 0 ∧ p4 = 1) := by omega
theorem five_bytes (x b0 b1 b2 b3 b4 : Nat) (e0 : b0 = x % 256) (e1 : b1 = x / 256 % 256) (e2 : b2 = x / 65536 % 256) (e3 : b3 = x / 16777216 % 256) (e4 : b4 = x / 4294967296 % 256) (hx : x < 1099511627776) :
    x = b0 + 256 * b1 + 65536 * b2 + 16777216 * b3 + 4294967296 * b4 := by omega
/-- Below 2^40 one bit alone is a power of two. -/
theorem one_bit (x : Nat) (hx : x < 1099511627776) (h : sum8 pop8 x = 1) : ∃ k, k < 40 ∧ x = 2 ^ k := by
  have q5 : x / 1099511627776 % 256 = 0 := by omega
  have q6 : x / 281474976710656 % 256 = 0 := by omega
  have q7 : x / 72057594037927936 % 256 = 0 := by omega
  have z : pop8 0 = 0 := rfl
  unfold sum8 at h
  rw [q5, q6, q7, z] at h
  simp only [Nat.add_zero] at h
  clear q5 q6 q7
  have hB := five_bytes x _ _ _ _ _ rfl rfl rfl rfl rfl hx
  have l0 : x % 256 < 256 := by omega
  have l1 : x / 256 % 256 < 256 := by omega
  have l2 : x / 65536 % 256 < 256 := by omega
  have l3 : x / 16777216 % 256 < 256 := by omega
  have l4 : x / 4294967296 % 256 < 256 := by omega
  have hc := five _ _ _ _ _ h
  generalize x % 256 = b0 at *
  generalize x / 256 % 256 = b1 at *
  generalize x / 65536 % 256 = b2 at *
  generalize x / 16777216 % 256 = b3 at *
  generalize x / 4294967296 % 256 = b4 at *
  clear h hx
  have Z := fun b hb h => pop8_zero b hb h
  rcases hc with ⟨h0, h1, h2, h3, h4⟩ | ⟨h0, h1, h2, h3, h4⟩ | ⟨h0, h1, h2, h3, h4⟩ | ⟨h0, h1, h2, h3, h4⟩ | ⟨h0, h1, h2, h3, h4⟩
  · have := Z b1 l1 h1; have := Z b2 l2 h2; have := Z b3 l3 h3; have := Z b4 l4 h4
    have s := pop8_one b0 l0 h0
    subst b1 b2 b3 b4
    obtain ⟨j, hj, e⟩ := pw x b0 1 s (by rw [hB]; clear s; omega)
    exact ⟨j, by omega, by rw [e, Nat.one_mul]⟩
  · have := Z b0 l0 h0; have := Z b2 l2 h2; have := Z b3 l3 h3; have := Z b4 l4 h4
    have s := pop8_one b1 l1 h1
    subst b0 b2 b3 b4
    obtain ⟨j, hj, e⟩ := pw x b1 256 s (by rw [hB]; clear s; omega)
    exact ⟨8 + j, by omega, by rw [e, Nat.pow_add]⟩
  · have := Z b0 l0 h0; have := Z b1 l1 h1; have := Z b3 l3 h3; have := Z b4 l4 h4
    have s := pop8_one b2 l2 h2
    subst b0 b1 b3 b4
    obtain ⟨j, hj, e⟩ := pw x b2 65536 s (by rw [hB]; clear s; omega)
    exact ⟨16 + j, by omega, by rw [e, Nat.pow_add]⟩
  · have := Z b0 l0 h0; have := Z b1 l1 h1; have := Z b2 l2 h2; have := Z b4 l4 h4
    have s := pop8_one b3 l3 h3
    subst b0 b1 b2 b4
    obtain ⟨j, hj, e⟩ := pw x b3 16777216 s (by rw [hB]; clear s; omega)
    exact ⟨24 + j, by omega, by rw [e, Nat.pow_add]⟩
  · have := Z b0 l0 h0; have := Z b1 l1 h1; have := Z b2 l2 h2; have := Z b3 l3 h3
    have s := pop8_one b4 l4 h4
    subst b0 b1 b2 b3
    obtain ⟨j, hj, e⟩ := pw x b4 4294967296 s (by rw [hB]; clear s; omega)
    exact ⟨32 + j, by omega, by rw [e, Nat.pow_add]⟩
/-- And a power of two has one bit. -/
theorem bit_one : ∀ k, k < 40 → sum8 pop8 (2 ^ k) = 1 ∧ Lib.ctz 64 (2 ^ k) = k ∧ 2 ^ k < 1099511627776 := by decide +kernel
end Go.Proofs.YtdmgigicbppjkaaDoor.Pop
