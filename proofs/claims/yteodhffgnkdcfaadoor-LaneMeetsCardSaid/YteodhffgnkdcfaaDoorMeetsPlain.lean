/- Plain facts, of several texts. -/
import Derived.Test.YteodhffgnkdcfaaDoorWWords
import Derived.Lib.TrailingZeros
import Derived.Test.YteodhffgnkdcfaaDoorQx4
import Derived.Test.YteodhffgnkdcfaaDoorQx22
/- Plain facts: counting the bits of a number the way math/bits does, and numbers that are powers of two. No Go in it. -/
namespace Go.Proofs.YteodhffgnkdcfaaDoor.Pop
open Go.RowKit

/-- The bits of a byte. -/
def pop8 (b : Nat) : Nat := b % 2 + b / 2 % 2 + b / 4 % 2 + b / 8 % 2 + b / 16 % 2 + b / 32 % 2 + b / 64 % 2 + b / 128 % 2
def st1 (b : Nat) : Nat := (b / 2 &&& 85) + (b &&& 85)
def st2 (b : Nat) : Nat := (b / 4 &&& 51) + (b &&& 51)
theorem st1_lt : ∀ b, b < 256 → st1 b < 256 := by decide +kernel
theorem st2_st1_lt : ∀ b, b < 256 → st2 (st1 b) < 256 := by decide +kernel
theorem st3_ok : ∀ b, b < 256 → (st2 (st1 b) / 16 + st2 (st1 b)) &&& 15 = pop8 b ∧ st2 (st1 b) % 16 ≤ 4 ∧ st2 (st1 b) / 16 ≤ 4 := by decide +kernel
theorem low1 : ∀ c, c < 2 → ∀ r, r < 256 → (128 * c + r / 2) &&& 85 = r / 2 &&& 85 := by decide +kernel
theorem low2 : ∀ c, c < 4 → ∀ r, r < 256 → (64 * c + r / 4) &&& 51 = r / 4 &&& 51 := by decide +kernel
theorem low3 : ∀ c, c < 16 → ∀ s, s < 75 → (16 * c + s) &&& 15 = s &&& 15 := by decide +kernel

theorem and_split (q r M m : Nat) (hr : r < 256) (hm : m < 256) : (256 * q + r) &&& (256 * M + m) = 256 * (q &&& M) + (r &&& m) := by
  have h : ∀ x y : Nat, y < 256 → 256 * x + y = 2 ^ 8 * x ||| y := fun x y hy => (Nat.two_pow_add_eq_or_of_lt (i := 8) hy x)
  have hrm : r &&& m < 256 := Nat.lt_of_le_of_lt Nat.and_le_left hr
  rw [h q r hr, h M m hm, h _ _ hrm]
  apply Nat.eq_of_testBit_eq
  intro i
  simp only [Nat.testBit_and, Nat.testBit_or, Nat.testBit_two_pow_mul]
  by_cases hi : 8 ≤ i
  · have h1 : r.testBit i = false := Nat.testBit_lt_two_pow (Nat.lt_of_lt_of_le hr (Nat.pow_le_pow_right (by decide : 0 < 2) hi : 2 ^ 8 ≤ 2 ^ i))
    have h2 : m.testBit i = false := Nat.testBit_lt_two_pow (Nat.lt_of_lt_of_le hm (Nat.pow_le_pow_right (by decide : 0 < 2) hi : 2 ^ 8 ≤ 2 ^ i))
    simp [hi, h1, h2]
  · simp [hi]

/-- The mask of n bytes m. -/
def mask (m : Nat) : Nat → Nat
  | 0 => 0
  | n + 1 => 256 * mask m n + m
/-- f, byte by byte. -/
def bytewise (f : Nat → Nat) : Nat → Nat → Nat
  | 0, _ => 0
  | n + 1, x => 256 * bytewise f n (x / 256) + f (x % 256)

theorem stage1 : ∀ (n x : Nat), x < 256 ^ n → (x / 2 &&& mask 85 n) + (x &&& mask 85 n) = bytewise st1 n x
  | 0, x, _ => by simp [mask, bytewise]
  | n + 1, x, h => by
    have hq : x / 256 < 256 ^ n := by rw [Nat.pow_succ] at h; omega
    have ih := stage1 n (x / 256) hq
    have e1 : x / 2 = 256 * (x / 256 / 2) + (128 * (x / 256 % 2) + x % 256 / 2) := by omega
    have e2 : x = 256 * (x / 256) + x % 256 := by omega
    have hb : x % 256 < 256 := by omega
    show (x / 2 &&& (256 * mask 85 n + 85)) + (x &&& (256 * mask 85 n + 85)) = 256 * bytewise st1 n (x / 256) + st1 (x % 256)
    rw [e1, and_split _ _ _ _ (by omega) (by omega), low1 _ (by omega) _ hb, ← ih]
    conv => lhs; rhs; rw [e2]
    rw [and_split _ _ _ _ hb (by omega)]
    unfold st1
    omega
theorem stage2 : ∀ (n x : Nat), x < 256 ^ n → (x / 4 &&& mask 51 n) + (x &&& mask 51 n) = bytewise st2 n x
  | 0, x, _ => by simp [mask, bytewise]
  | n + 1, x, h => by
    have hq : x / 256 < 256 ^ n := by rw [Nat.pow_succ] at h; omega
    have ih := stage2 n (x / 256) hq
    have e1 : x / 4 = 256 * (x / 256 / 4) + (64 * (x / 256 % 4) + x % 256 / 4) := by omega
    have e2 : x = 256 * (x / 256) + x % 256 := by omega
    have hb : x % 256 < 256 := by omega
    show (x / 4 &&& (256 * mask 51 n + 51)) + (x &&& (256 * mask 51 n + 51)) = 256 * bytewise st2 n (x / 256) + st2 (x % 256)
    rw [e1, and_split _ _ _ _ (by omega) (by omega), low2 _ (by omega) _ hb, ← ih]
    conv => lhs; rhs; rw [e2]
    rw [and_split _ _ _ _ hb (by omega)]
    unfold st2
    omega
/-- Each byte's nibbles are small. -/
def nib : Nat → Nat → Prop
  | 0, _ => True
  | n + 1, x => x % 256 % 16 ≤ 4 ∧ x % 256 / 16 ≤ 4 ∧ nib n (x / 256)
def st3 (b : Nat) : Nat := (b / 16 + b) &&& 15
theorem stage3 : ∀ (n x : Nat), x < 256 ^ n → nib n x → (x / 16 + x) &&& mask 15 n = bytewise st3 n x
  | 0, x, _, _ => by simp [mask, bytewise]
  | n + 1, x, h, hn => by
    obtain ⟨h1, h2, h3⟩ := hn
    have hq : x / 256 < 256 ^ n := by rw [Nat.pow_succ] at h; omega
    have ih := stage3 n (x / 256) hq h3
    have hc : x / 256 % 16 ≤ 4 := by
      cases n with
      | zero => simp at hq; omega
      | succ m => have := h3.1; omega
    have e1 : x / 16 + x = 256 * (x / 256 / 16 + x / 256) + (16 * (x / 256 % 16) + (x % 256 / 16 + x % 256)) := by omega
    show (x / 16 + x) &&& (256 * mask 15 n + 15) = 256 * bytewise st3 n (x / 256) + st3 (x % 256)
    rw [e1, and_split _ _ _ _ (by omega) (by omega), low3 _ (by omega) _ (by omega), ih]
    rfl
theorem bytewise_lt {f : Nat → Nat} (hf : ∀ b, b < 256 → f b < 256) : ∀ (n x : Nat), bytewise f n x < 256 ^ n
  | 0, _ => by simp [bytewise]
  | n + 1, x => by
    have := bytewise_lt hf n (x / 256)
    have := hf (x % 256) (by omega)
    show 256 * bytewise f n (x / 256) + f (x % 256) < 256 ^ (n + 1)
    rw [Nat.pow_succ]
    omega
theorem bytewise_comp {f g : Nat → Nat} (hf : ∀ b, b < 256 → f b < 256) : ∀ (n x : Nat), bytewise g n (bytewise f n x) = bytewise (fun b => g (f b)) n x
  | 0, _ => rfl
  | n + 1, x => by
    have h := hf (x % 256) (by omega)
    have e1 : (256 * bytewise f n (x / 256) + f (x % 256)) / 256 = bytewise f n (x / 256) := by omega
    have e2 : (256 * bytewise f n (x / 256) + f (x % 256)) % 256 = f (x % 256) := by omega
    show 256 * bytewise g n ((256 * bytewise f n (x / 256) + f (x % 256)) / 256) + g ((256 * bytewise f n (x / 256) + f (x % 256)) % 256) = 256 * bytewise (fun b => g (f b)) n (x / 256) + g (f (x % 256))
    rw [e1, e2, bytewise_comp hf n]
theorem bytewise_congr {f g : Nat → Nat} (h : ∀ b, b < 256 → f b = g b) : ∀ (n x : Nat), bytewise f n x = bytewise g n x
  | 0, _ => rfl
  | n + 1, x => by
    show 256 * bytewise f n (x / 256) + f (x % 256) = 256 * bytewise g n (x / 256) + g (x % 256)
    rw [bytewise_congr h n, h _ (by omega)]
theorem nib_12 : ∀ (n x : Nat), nib n (bytewise (fun b => st2 (st1 b)) n x)
  | 0, _ => trivial
  | n + 1, x => by
    obtain ⟨_, h1, h2⟩ := st3_ok (x % 256) (by omega)
    have h3 := st2_st1_lt (x % 256) (by omega)
    have e1 : (256 * bytewise (fun b => st2 (st1 b)) n (x / 256) + st2 (st1 (x % 256))) / 256 = bytewise (fun b => st2 (st1 b)) n (x / 256) := by omega
    have e2 : (256 * bytewise (fun b => st2 (st1 b)) n (x / 256) + st2 (st1 (x % 256))) % 256 = st2 (st1 (x % 256)) := by omega
    refine ⟨?_, ?_, ?_⟩
    · show (256 * bytewise (fun b => st2 (st1 b)) n (x / 256) + st2 (st1 (x % 256))) % 256 % 16 ≤ 4
      rw [e2]; exact h1
    · show (256 * bytewise (fun b => st2 (st1 b)) n (x / 256) + st2 (st1 (x % 256))) % 256 / 16 ≤ 4
      rw [e2]; exact h2
    · show nib n ((256 * bytewise (fun b => st2 (st1 b)) n (x / 256) + st2 (st1 (x % 256))) / 256)
      rw [e1]; exact nib_12 n _
theorem nib_lt : ∀ (n x : Nat), nib (n + 1) x → x < 256 ^ (n + 1) → x < 69 * 256 ^ n
  | 0, x, h, hx => by
    have h1 := h.1
    have h2 := h.2.1
    simp at hx
    omega
  | n + 1, x, h, hx => by
    have hq : x / 256 < 256 ^ (n + 1) := by rw [Nat.pow_succ] at hx; omega
    have := nib_lt n (x / 256) h.2.2 hq
    rw [Nat.pow_succ]
    omega
/-- The three stages together: a byte for each byte's number of bits. -/
theorem stages (x y1 y2 y3 : Nat) (hx : x < 2 ^ 64) (h1 : y1 = (x / 2 &&& 6148914691236517205) + (x &&& 6148914691236517205)) (h2 : y2 = (y1 / 4 &&& 3689348814741910323) + (y1 &&& 3689348814741910323))
    (h3 : y3 = (y2 / 16 + y2) &&& 1085102592571150095) : y3 = bytewise pop8 8 x ∧ y1 < 2 ^ 64 ∧ y2 < 2 ^ 64 ∧ y2 / 16 + y2 < 2 ^ 64 := by
  have m1 : mask 85 8 = 6148914691236517205 := by decide
  have m2 : mask 51 8 = 3689348814741910323 := by decide
  have m3 : mask 15 8 = 1085102592571150095 := by decide
  have p : (256 : Nat) ^ 8 = 2 ^ 64 := by decide
  have e1 : y1 = bytewise st1 8 x := by rw [h1, ← m1]; exact stage1 8 x (by rw [p]; exact hx)
  have l1 : y1 < 256 ^ 8 := by rw [e1]; exact bytewise_lt st1_lt 8 x
  have e2 : y2 = bytewise (fun b => st2 (st1 b)) 8 x := by rw [h2, ← m2, stage2 8 y1 l1, e1, bytewise_comp st1_lt]
  have l2 : y2 < 256 ^ 8 := by rw [e2]; exact bytewise_lt st2_st1_lt 8 x
  have n2 : nib 8 y2 := by rw [e2]; exact nib_12 8 x
  have e3 : y3 = bytewise st3 8 y2 := by rw [h3, ← m3]; exact stage3 8 y2 l2 n2
  have hs : y2 / 16 + y2 < 2 ^ 64 := by
    have := nib_lt 7 y2 n2 l2
    have : (256 : Nat) ^ 7 = 72057594037927936 := by decide
    omega
  refine ⟨?_, by omega, by omega, hs⟩
  rw [e3, e2, bytewise_comp st2_st1_lt]
  exact bytewise_congr (fun b hb => (st3_ok b hb).1) 8 x
/-- The bytes added up. -/
def sum8 (f : Nat → Nat) (x : Nat) : Nat := f (x % 256) + f (x / 256 % 256) + f (x / 65536 % 256) + f (x / 16777216 % 256) + f (x / 4294967296 % 256) + f (x / 1099511627776 % 256) + f (x / 281474976710656 % 256) + f (x / 72057594037927936 % 256)
theorem pop8_le (b : Nat) : pop8 b ≤ 8 := by unfold pop8; omega
theorem bytes_eq (f : Nat → Nat) (x : Nat) : bytewise f 8 x = f (x % 256) + 256 * f (x / 256 % 256) + 65536 * f (x / 65536 % 256) + 16777216 * f (x / 16777216 % 256) + 4294967296 * f (x / 4294967296 % 256) + 1099511627776 * f (x / 1099511627776 % 256) + 281474976710656 * f (x / 281474976710656 % 256) + 72057594037927936 * f (x / 72057594037927936 % 256) := by
  simp only [bytewise, Nat.div_div_eq_div_mul]
  simp only [Nat.reduceMul]
  omega
theorem cut8 (d r y : Nat) (hd : d < 256) (e : y = d + 256 * r) : y / 256 = r := by omega
theorem cut16 (d r y : Nat) (hd : d < 65536) (e : y = d + 65536 * r) : y / 65536 = r := by omega
theorem cut32 (d r y : Nat) (hd : d < 4294967296) (e : y = d + 4294967296 * r) : y / 4294967296 = r := by omega
/-- The last three stages add the bytes up. -/
theorem last (c0 c1 c2 c3 c4 c5 c6 c7 y3 y4 y5 y6 : Nat) (h0 : c0 ≤ 8) (h1 : c1 ≤ 8) (h2 : c2 ≤ 8) (h3 : c3 ≤ 8) (h4 : c4 ≤ 8) (h5 : c5 ≤ 8) (h6 : c6 ≤ 8) (h7 : c7 ≤ 8)
    (e3 : y3 = c0 + 256 * c1 + 65536 * c2 + 16777216 * c3 + 4294967296 * c4 + 1099511627776 * c5 + 281474976710656 * c6 + 72057594037927936 * c7)
    (e4 : y4 = y3 + y3 / 256) (e5 : y5 = y4 + y4 / 65536) (e6 : y6 = y5 + y5 / 4294967296) :
    y6 % 128 = c0 + c1 + c2 + c3 + c4 + c5 + c6 + c7 ∧ y4 < 2 ^ 63 ∧ y5 < 2 ^ 63 ∧ y6 < 2 ^ 63 := by
  have a3 := cut8 c0 (c1 + 256 * c2 + 65536 * c3 + 16777216 * c4 + 4294967296 * c5 + 1099511627776 * c6 + 281474976710656 * c7) y3 (by clear e3 e4 e5 e6; omega) (by clear e4 e5 e6; omega)
  rw [a3] at e4
  clear a3
  rw [e3] at e4
  clear e3
  have a4 := cut16 ((c0 + c1) + 256 * (c1 + c2)) ((c2 + c3) + 256 * (c3 + c4) + 65536 * (c4 + c5) + 16777216 * (c5 + c6) + 4294967296 * (c6 + c7) + 1099511627776 * c7) y4 (by clear e4 e5 e6; omega) (by clear e5 e6; omega)
  rw [a4] at e5
  clear a4
  have a5 := cut32 ((c0 + c1 + c2 + c3) + 256 * (c1 + c2 + c3 + c4) + 65536 * (c2 + c3 + c4 + c5) + 16777216 * (c3 + c4 + c5 + c6)) ((c4 + c5 + c6 + c7) + 256 * (c5 + c6 + c7) + 65536 * (c6 + c7) + 16777216 * c7) y5 (by clear e4 e5 e6; omega) (by clear e6; omega)
  rw [a5] at e6
  clear a5
  refine ⟨?_, by clear e5 e6; omega, by clear e6; omega, by omega⟩
  obtain ⟨s, hs⟩ : ∃ s, s = c0 + c1 + c2 + c3 + c4 + c5 + c6 + c7 := ⟨_, rfl⟩
  obtain ⟨u, hu⟩ : ∃ u, y6 = s + 256 * u := ⟨(c1 + c2 + c3 + c4 + (c5 + c6 + c7)) + 256 * (c2 + c3 + c4 + c5 + (c6 + c7)) + 65536 * (c3 + c4 + c5 + c6 + c7) + 16777216 * (c4 + c5 + c6 + c7) + 4294967296 * (c5 + c6 + c7) + 1099511627776 * (c6 + c7) + 281474976710656 * c7, by omega⟩
  rw [← hs]
  clear e4 e5 e6
  omega
theorem pop8_zero : ∀ b, b < 256 → pop8 b = 0 → b = 0 := by decide +kernel
theorem pop8_one : ∀ b, b < 256 → pop8 b = 1 → b = 1 ∨ b = 2 ∨ b = 4 ∨ b = 8 ∨ b = 16 ∨ b = 32 ∨ b = 64 ∨ b = 128 := by decide +kernel
theorem pw (x : Nat) : ∀ b m, (b = 1 ∨ b = 2 ∨ b = 4 ∨ b = 8 ∨ b = 16 ∨ b = 32 ∨ b = 64 ∨ b = 128) → x = m * b → ∃ j, j < 8 ∧ x = m * 2 ^ j := by
  intro b m hb hxb
  rcases hb with rfl | rfl | rfl | rfl | rfl | rfl | rfl | rfl
  · exact ⟨0, by decide, hxb⟩
  · exact ⟨1, by decide, hxb⟩
  · exact ⟨2, by decide, hxb⟩
  · exact ⟨3, by decide, hxb⟩
  · exact ⟨4, by decide, hxb⟩
  · exact ⟨5, by decide, hxb⟩
  · exact ⟨6, by decide, hxb⟩
  · exact ⟨7, by decide, hxb⟩
theorem five (p0 p1 p2 p3 p4 : Nat) (h : p0 + p1 + p2 + p3 + p4 = 1) : (p0 = 1 ∧ p1 = 0 ∧ p2 = 0 ∧ p3 = 0 ∧ p4 = 0) ∨ (p0 = 0 ∧ p1 = 1 ∧ p2 = 0 ∧ p3 = 0 ∧ p4 = 0) ∨ (p0 = 0 ∧ p1 = 0 ∧ p2 = 1 ∧ p3 = 0 ∧ p4 = 0) ∨ (p0 = 0 ∧ p1 = 0 ∧ p2 = 0 ∧ p3 = 1 ∧ p4 = 0) ∨ (p0 = 0 ∧ p1 = 0 ∧ p2 = 0 ∧ p3 = 0 ∧ p4 = 1) := by omega
theorem five_bytes (x b0 b1 b2 b3 b4 : Nat) (e0 : b0 = x % 256) (e1 : b1 = x / 256 % 256) (e2 : b2 = x / 65536 % 256) (e3 : b3 = x / 16777216 % 256) (e4 : b4 = x / 4294967296 % 256) (hx : x < 1099511627776) :
    x = b0 + 256 * b1 + 65536 * b2 + 16777216 * b3 + 4294967296 * b4 := by omega
/-- Below 2^40 one bit alone is a power of two. -/
theorem one_bit (x : Nat) (hx : x < 1099511627776) (h : sum8 pop8 x = 1) : ∃ k, k < 40 ∧ x = 2 ^ k := by
  have q5 : x / 1099511627776 % 256 = 0 := by omega
  have q6 : x / 281474976710656 % 256 = 0 := by omega
  have q7 : x / 72057594037927936 % 256 = 0 := by omega
  have z : pop8 0 = 0 := rfl
  unfold sum8 at h
  rw [q5, q6, q7, z] at h
  simp only [Nat.add_zero] at h
  clear q5 q6 q7
  have hB := five_bytes x _ _ _ _ _ rfl rfl rfl rfl rfl hx
  have l0 : x % 256 < 256 := by omega
  have l1 : x / 256 % 256 < 256 := by omega
  have l2 : x / 65536 % 256 < 256 := by omega
  have l3 : x / 16777216 % 256 < 256 := by omega
  have l4 : x / 4294967296 % 256 < 256 := by omega
  have hc := five _ _ _ _ _ h
  generalize x % 256 = b0 at *
  generalize x / 256 % 256 = b1 at *
  generalize x / 65536 % 256 = b2 at *
  generalize x / 16777216 % 256 = b3 at *
  generalize x / 4294967296 % 256 = b4 at *
  clear h hx
  have Z := fun b hb h => pop8_zero b hb h
  rcases hc with ⟨h0, h1, h2, h3, h4⟩ | ⟨h0, h1, h2, h3, h4⟩ | ⟨h0, h1, h2, h3, h4⟩ | ⟨h0, h1, h2, h3, h4⟩ | ⟨h0, h1, h2, h3, h4⟩
  · have := Z b1 l1 h1; have := Z b2 l2 h2; have := Z b3 l3 h3; have := Z b4 l4 h4
    have s := pop8_one b0 l0 h0
    subst b1 b2 b3 b4
    obtain ⟨j, hj, e⟩ := pw x b0 1 s (by rw [hB]; clear s; omega)
    exact ⟨j, by omega, by rw [e, Nat.one_mul]⟩
  · have := Z b0 l0 h0; have := Z b2 l2 h2; have := Z b3 l3 h3; have := Z b4 l4 h4
    have s := pop8_one b1 l1 h1
    subst b0 b2 b3 b4
    obtain ⟨j, hj, e⟩ := pw x b1 256 s (by rw [hB]; clear s; omega)
    exact ⟨8 + j, by omega, by rw [e, Nat.pow_add]⟩
  · have := Z b0 l0 h0; have := Z b1 l1 h1; have := Z b3 l3 h3; have := Z b4 l4 h4
    have s := pop8_one b2 l2 h2
    subst b0 b1 b3 b4
    obtain ⟨j, hj, e⟩ := pw x b2 65536 s (by rw [hB]; clear s; omega)
    exact ⟨16 + j, by omega, by rw [e, Nat.pow_add]⟩
  · have := Z b0 l0 h0; have := Z b1 l1 h1; have := Z b2 l2 h2; have := Z b4 l4 h4
    have s := pop8_one b3 l3 h3
    subst b0 b1 b2 b4
    obtain ⟨j, hj, e⟩ := pw x b3 16777216 s (by rw [hB]; clear s; omega)
    exact ⟨24 + j, by omega, by rw [e, Nat.pow_add]⟩
  · have := Z b0 l0 h0; have := Z b1 l1 h1; have := Z b2 l2 h2; have := Z b3 l3 h3
    have s := pop8_one b4 l4 h4
    subst b0 b1 b2 b3
    obtain ⟨j, hj, e⟩ := pw x b4 4294967296 s (by rw [hB]; clear s; omega)
    exact ⟨32 + j, by omega, by rw [e, Nat.pow_add]⟩
/-- And a power of two has one bit. -/
theorem bit_one : ∀ k, k < 40 → sum8 pop8 (2 ^ k) = 1 ∧ Lib.ctz 64 (2 ^ k) = k ∧ 2 ^ k < 1099511627776 := by decide +kernel
end Go.Proofs.YteodhffgnkdcfaaDoor.Pop

/- Plain facts: which numbers may be, and which are powers of two. No memory and no Go in it. -/
namespace Go.Proofs.YteodhffgnkdcfaaDoor.Q
open Go.RowKit Go.Proofs.YteodhffgnkdcfaaDoorW.PrintWords Go.Proofs.YteodhffgnkdcfaaDoorW.PrintLast Go.Proofs.YteodhffgnkdcfaaDoorW.PrintMore

theorem w64 {x : Int} (h1 : -9223372036854775808 ≤ x) (h2 : x ≤ 9223372036854775807) : wrap64 x = x := by unfold wrap64; omega
theorem wu64 {x : Int} (h1 : 0 ≤ x) (h2 : x ≤ 18446744073709551615) : IntKind.u64.wrap x = x := by rw [wrap_u64_]; omega

/-- What Check tells. -/
def code (n : Int) : Int := if n < 0 then 10 else if 1099511627775 < n then 11 else 0
theorem check_eq (n : Int) : num_Check.f n = some (code n) := by
  unfold num_Check.f code
  by_cases h : n < 0
  · simp [h]
  · by_cases h2 : 1099511627775 < n <;> simp [h, h2]
theorem code_ok {n : Int} : code n = 0 ↔ 0 ≤ n ∧ n ≤ 1099511627775 := by
  unfold code
  by_cases h : n < 0
  · rw [if_pos h]; constructor
    · intro h; cases h
    · intro h; omega
  · rw [if_neg h]
    by_cases h2 : 1099511627775 < n
    · rw [if_pos h2]; constructor
      · intro h; cases h
      · intro h; omega
    · rw [if_neg h2]; constructor
      · intro _; omega
      · intro _; rfl
theorem sum_nonneg {l : List Int} (h : ∀ x ∈ l, 0 ≤ x) : 0 ≤ l.sum := by
  induction l with
  | nil => simp
  | cons a l ih =>
    rw [List.sum_cons]
    have := h a (by simp)
    have := ih (fun x hx => h x (by simp [hx]))
    omega
theorem rd_drop {l : List Int} {i : Nat} (h : i < l.length) : l.drop i = rd l (i : Int) :: l.drop (i + 1) := by
  rw [List.drop_eq_getElem_cons h]
  unfold rd
  rw [Int.toNat_natCast, List.getD_eq_getElem?_getD, List.getElem?_eq_getElem h, Option.getD_some]
theorem rd_mem {l : List Int} {i : Nat} (h : i < l.length) : rd l (i : Int) ∈ l := by
  unfold rd
  rw [Int.toNat_natCast, List.getD_eq_getElem?_getD, List.getElem?_eq_getElem h, Option.getD_some]
  exact List.getElem_mem h
theorem and_low (a : Nat) (ha : a < 18446744073709551616) : Go.bits .and .u64 (a : Int) 4294967295 = ((a % 4294967296 : Nat) : Int) := by
  have := and_u64_nat a 4294967295 ha (by omega)
  rw [show ((4294967295 : Nat) : Int) = 4294967295 from rfl] at this
  rw [this]
  have : a &&& 4294967295 = a % 2 ^ 32 := Nat.and_two_pow_sub_one_eq_mod a 32
  rw [this]
/-- Powers of two. -/
def twoV (a : Int) : Int × Bool := match (List.range 40).find? (fun k => decide ((2 : Int) ^ k = a)) with
  | some k => ((k : Int), true)
  | none => (0, false)
theorem twoV_pow : ∀ k : Nat, k < 40 → twoV ((2 : Int) ^ k) = ((k : Int), true) := by decide +kernel
theorem twoV_no {a : Int} (h : ∀ k : Nat, k < 40 → (2 : Int) ^ k ≠ a) : twoV a = (0, false) := by
  unfold twoV
  rw [List.find?_eq_none.2 (fun k hk => by simpa using h k (by simpa using hk))]
theorem ones1 (x y1 : Nat) (hx : x < 18446744073709551616) (h1 : y1 = (x / 2 &&& 6148914691236517205) + (x &&& 6148914691236517205)) (l1 : y1 < 18446744073709551616) :
    IntKind.u64.wrap ((Go.bits .and .u64 ((x : Int) / 2) 6148914691236517205) + (Go.bits .and .u64 (x : Int) 6148914691236517205)) = (y1 : Int) := by
  have a1 := and_u64_nat (x / 2) 6148914691236517205 (by omega) (by omega)
  have a2 := and_u64_nat x 6148914691236517205 hx (by omega)
  rw [show ((6148914691236517205 : Nat) : Int) = 6148914691236517205 from rfl] at a1 a2
  rw [show (x : Int) / 2 = ((x / 2 : Nat) : Int) from by omega, a1, a2]
  generalize x / 2 &&& 6148914691236517205 = p at *
  generalize x &&& 6148914691236517205 = q at *
  rw [wu64 (by omega) (by omega)]
  omega
theorem ones2 (x y1 : Nat) (hx : x < 18446744073709551616) (h1 : y1 = (x / 4 &&& 3689348814741910323) + (x &&& 3689348814741910323)) (l1 : y1 < 18446744073709551616) :
    IntKind.u64.wrap ((Go.bits .and .u64 ((x : Int) / 4) 3689348814741910323) + (Go.bits .and .u64 (x : Int) 3689348814741910323)) = (y1 : Int) := by
  have a1 := and_u64_nat (x / 4) 3689348814741910323 (by omega) (by omega)
  have a2 := and_u64_nat x 3689348814741910323 hx (by omega)
  rw [show ((3689348814741910323 : Nat) : Int) = 3689348814741910323 from rfl] at a1 a2
  rw [show (x : Int) / 4 = ((x / 4 : Nat) : Int) from by omega, a1, a2]
  generalize x / 4 &&& 3689348814741910323 = p at *
  generalize x &&& 3689348814741910323 = q at *
  rw [wu64 (by omega) (by omega)]
  omega
theorem ones3 (y2 y3 : Nat) (h3 : y3 = (y2 / 16 + y2) &&& 1085102592571150095) (ls : y2 / 16 + y2 < 18446744073709551616) :
    Go.bits .and .u64 (IntKind.u64.wrap ((y2 : Int) / 16 + (y2 : Int))) 1085102592571150095 = (y3 : Int) := by
  have a1 := and_u64_nat (y2 / 16 + y2) 1085102592571150095 ls (by omega)
  rw [show ((1085102592571150095 : Nat) : Int) = 1085102592571150095 from rfl] at a1
  rw [show (y2 : Int) / 16 + (y2 : Int) = ((y2 / 16 + y2 : Nat) : Int) from by omega, wu64 (by omega) (by omega), a1, ← h3]
theorem ones4 (m y3 y4 : Nat) (h4 : y4 = y3 + y3 / m) (l4 : y4 < 9223372036854775808) : IntKind.u64.wrap ((y3 : Int) + (y3 : Int) / (m : Int)) = (y4 : Int) := by
  rw [show (y3 : Int) / (m : Int) = ((y3 / m : Nat) : Int) from by simp]
  generalize y3 / m = q at *
  rw [wu64 (by omega) (by omega)]
  omega
theorem ones6 (y6 : Nat) (l6 : y6 < 9223372036854775808) : Go.bits .and .i64 (y6 : Int) 127 = ((y6 % 128 : Nat) : Int) := by
  have o1 : (BitVec.ofInt 64 (y6 : Int)).toNat = y6 := by
    rw [BitVec.ofInt_natCast, BitVec.toNat_ofNat]; exact Nat.mod_eq_of_lt (by omega)
  show IntKind.i64.wrap ((BitVec.ofInt 64 (y6 : Int) &&& BitVec.ofInt 64 127).toNat : Int) = _
  rw [BitVec.toNat_and, o1, show (BitVec.ofInt 64 127).toNat = 127 from by decide]
  have := Nat.and_two_pow_sub_one_eq_mod y6 7
  rw [show y6 &&& 127 = y6 % 128 from this, IntKind.wrap_i64]
  omega
theorem ones_eq (x : Nat) (hx : x < 18446744073709551616) : bits_OnesCount64.f (x : Int) = some ((Pop.sum8 Pop.pop8 x : Nat) : Int) := by
  obtain ⟨y1, h1⟩ : ∃ y1, y1 = (x / 2 &&& 6148914691236517205) + (x &&& 6148914691236517205) := ⟨_, rfl⟩
  obtain ⟨y2, h2⟩ : ∃ y2, y2 = (y1 / 4 &&& 3689348814741910323) + (y1 &&& 3689348814741910323) := ⟨_, rfl⟩
  obtain ⟨y3, h3⟩ : ∃ y3, y3 = (y2 / 16 + y2) &&& 1085102592571150095 := ⟨_, rfl⟩
  obtain ⟨y4, h4⟩ : ∃ y4, y4 = y3 + y3 / 256 := ⟨_, rfl⟩
  obtain ⟨y5, h5⟩ : ∃ y5, y5 = y4 + y4 / 65536 := ⟨_, rfl⟩
  obtain ⟨y6, h6⟩ : ∃ y6, y6 = y5 + y5 / 4294967296 := ⟨_, rfl⟩
  obtain ⟨hb, l1, l2, ls⟩ := Pop.stages x y1 y2 y3 hx h1 h2 h3
  rw [Pop.bytes_eq] at hb
  obtain ⟨hr, l4, l5, l6⟩ := Pop.last _ _ _ _ _ _ _ _ y3 y4 y5 y6 (Pop.pop8_le _) (Pop.pop8_le _) (Pop.pop8_le _) (Pop.pop8_le _) (Pop.pop8_le _) (Pop.pop8_le _) (Pop.pop8_le _) (Pop.pop8_le _) hb h4 h5 h6
  have e1 := ones1 x y1 hx h1 l1
  have e2 := ones2 y1 y2 l1 h2 l2
  have e3 := ones3 y2 y3 h3 ls
  have e4 : IntKind.u64.wrap ((y3 : Int) + (y3 : Int) / 256) = (y4 : Int) := ones4 256 y3 y4 h4 l4
  have e5 : IntKind.u64.wrap ((y4 : Int) + (y4 : Int) / 65536) = (y5 : Int) := ones4 65536 y4 y5 h5 l5
  have e6 : IntKind.u64.wrap ((y5 : Int) + (y5 : Int) / 4294967296) = (y6 : Int) := ones4 4294967296 y5 y6 h6 l6
  have e7 := ones6 y6 l6
  have e8 : wrap64 (y6 : Int) = (y6 : Int) := by clear h1 h2 h3 h4 h5 h6 hb hr e1 e2 e3 e4 e5 e6 e7; exact w64 (by omega) (by omega)
  clear hb h1 h2 h3 h4 h5 h6
  unfold bits_OnesCount64.f
  rw [e1, e2, e3, e4, e5, e6, e8, e7, hr]
  rfl
theorem two_eq (a : Int) : num_Two.f a = some (twoV a) := by
  unfold num_Two.f
  rw [check_eq]
  simp only [Option.bind_some]
  by_cases hc : code a = 0
  · obtain ⟨h0, h1⟩ := code_ok.1 hc
    obtain ⟨x, rfl⟩ := Int.eq_ofNat_of_zero_le h0
    rw [if_pos hc, wu64 h0 (by omega)]
    unfold bits_OnesCount.f
    rw [ones_eq x (by omega)]
    simp only [Option.bind_some]
    by_cases hp : Pop.sum8 Pop.pop8 x = 1
    · obtain ⟨k, hk, rfl⟩ := Pop.one_bit x (by omega) hp
      obtain ⟨_, ht, _⟩ := Pop.bit_one k hk
      rw [if_pos (by omega)]
      unfold bits_TrailingZeros.f
      have hpos : 0 < 2 ^ k := Nat.two_pow_pos k
      rw [if_pos ⟨by omega, by omega⟩, Int.toNat_natCast, ht]
      have := twoV_pow k hk
      rw [show ((2 : Int) ^ k) = ((2 ^ k : Nat) : Int) from by simp] at this
      rw [this]
      rfl
    · rw [if_neg (by omega), twoV_no]
      intro k hk he
      have e : x = 2 ^ k := by
        have : ((2 ^ k : Nat) : Int) = (x : Int) := by simpa using he
        omega
      exact hp (e ▸ (Pop.bit_one k hk).1)
  · rw [if_neg hc, twoV_no]
    intro k hk he
    obtain ⟨_, _, hl⟩ := Pop.bit_one k hk
    have e : ((2 ^ k : Nat) : Int) = a := by simpa using he
    generalize 2 ^ k = p at hl e
    exact hc (code_ok.2 ⟨by omega, by omega⟩)
theorem pow_succ_int (j : Nat) : (2 : Int) ^ (j + 1) = 2 * 2 ^ j := by rw [Int.pow_succ, Int.mul_comm]
theorem pow_pos_int (j : Nat) : (0 : Int) < 2 ^ j := Int.pow_pos (by decide)
end Go.Proofs.YteodhffgnkdcfaaDoor.Q

/- Plain facts: the first number that may not be. No memory and no Go in it. -/
namespace Go.Proofs.YteodhffgnkdcfaaDoor.Q
open Go.RowKit Go.Proofs.YteodhffgnkdcfaaDoorW.PrintWords Go.Proofs.YteodhffgnkdcfaaDoorW.PrintLast Go.Proofs.YteodhffgnkdcfaaDoorW.PrintMore

theorem badB_iff {n : Int} : badB n = false ↔ 0 ≤ n ∧ n ≤ 1099511627775 := by unfold badB; simp
theorem badB_code' {n : Int} : badB n = true ↔ code n ≠ 0 := by
  rw [Ne, code_ok, ← badB_iff]; simp

theorem firstV_nil : firstV [] = 0 := rfl
theorem firstV_cons (n : Int) (l : List Int) : firstV (n :: l) = if code n = 0 then firstV l else code n := by
  cases hb : badB n with
  | true =>
    have hc : code n ≠ 0 := badB_code'.1 hb
    have e : idxB badB (n :: l) = 0 := by
      unfold idxB
      rw [List.findIdx_cons, hb]
      simp
    unfold firstV
    rw [e, if_neg hc]
    simp [rd, code]
  | false =>
    have hc : code n = 0 := code_ok.2 (badB_iff.1 hb)
    have hf : (n :: l).findIdx badB = l.findIdx badB + 1 := by rw [List.findIdx_cons, hb]; rfl
    rw [if_pos hc]
    by_cases hlt : l.findIdx badB < l.length
    · have e1 : idxB badB (n :: l) = (l.findIdx badB : Int) + 1 := by unfold idxB; rw [hf]; simp [hlt]
      have e2 : idxB badB l = (l.findIdx badB : Int) := by unfold idxB; rw [if_pos hlt]
      have e3 : rd (n :: l) ((l.findIdx badB : Int) + 1) = rd l (l.findIdx badB : Int) := by
        unfold rd
        rw [show ((l.findIdx badB : Int) + 1).toNat = l.findIdx badB + 1 from by omega, Int.toNat_natCast, List.getD_cons_succ]
      unfold firstV
      rw [e1, e2, e3, if_pos (c := 0 ≤ (l.findIdx badB : Int) + 1) (by omega), if_pos (c := 0 ≤ (l.findIdx badB : Int)) (by omega)]
    · have e1 : idxB badB (n :: l) = -1 := by unfold idxB; rw [hf]; simp [hlt]
      have e2 : idxB badB l = -1 := by unfold idxB; rw [if_neg hlt]
      unfold firstV
      rw [e1, e2]
      rfl
theorem firstV_ok {l : List Int} : firstV l = 0 ↔ ∀ x ∈ l, 0 ≤ x ∧ x ≤ 1099511627775 := by
  induction l with
  | nil => simp [firstV_nil]
  | cons n l ih =>
    rw [firstV_cons]
    by_cases h : code n = 0
    · rw [if_pos h, ih]
      have := code_ok.1 h
      simp [this]
    · rw [if_neg h]
      simp only [List.mem_cons, forall_eq_or_imp, ← code_ok]
      simp [h]
theorem first_two (a b : Int) : firstV [a, b] = if code a = 0 then code b else code a := by
  rw [firstV_cons, firstV_cons, firstV_nil]
  by_cases h : code b = 0 <;> simp [h]
theorem first_eq (l : List Int) : num_first.f l = some (firstV l) := rfl

theorem two_ok {a b : Int} (h : firstV [a, b] = 0) : 0 ≤ a ∧ a ≤ 1099511627775 ∧ 0 ≤ b ∧ b ≤ 1099511627775 := by
  have := firstV_ok.1 h
  have h1 := this a (by simp)
  have h2 := this b (by simp)
  omega
end Go.Proofs.YteodhffgnkdcfaaDoor.Q

/- Plain facts: a quotient, rounded up. No memory and no Go in it. -/
namespace Go.Proofs.YteodhffgnkdcfaaDoor.Q
open Go.RowKit Go.Proofs.YteodhffgnkdcfaaDoorW.PrintWords Go.Proofs.YteodhffgnkdcfaaDoorW.PrintLast Go.Proofs.YteodhffgnkdcfaaDoorW.PrintMore

def upV (a b : Int) : Int × Int := if firstV [a, b] = 0 then (if b = 0 then (0, 12) else ((a + (b - 1)) / b, 0)) else (0, firstV [a, b])
theorem up_eq (a b : Int) : num_Up.f a b = some (upV a b) := by
  unfold num_Up.f quotV quotC upV
  by_cases h : firstV [a, b] = 0
  · obtain ⟨h1, h2, h3, h4⟩ := two_ok h
    rw [if_pos h, if_pos h]
    by_cases hb : b = 0
    · rw [if_pos hb, if_pos hb]
    · rw [if_neg hb, if_neg hb, w64 (x := b - 1) (by omega) (by omega), w64 (x := a + (b - 1)) (by omega) (by omega), Int.tdiv_eq_ediv_of_nonneg (by omega)]
      have h5 : (a + (b - 1)) / b ≤ a + (b - 1) := Int.ediv_le_self _ (by omega)
      have h6 : 0 ≤ (a + (b - 1)) / b := Int.ediv_nonneg (by omega) h3
      rw [w64 (by omega) (by omega)]
  · rw [if_neg h, if_neg h]
end Go.Proofs.YteodhffgnkdcfaaDoor.Q

/- Plain facts: what the functions of layer 15, and of its reference, come to, as numbers and lists. No memory and no Go in it. -/
set_option linter.unusedVariables false
namespace Go.Proofs.YteodhffgnkdcfaaDoor.Q
open Go.RowKit Go.Proofs.YteodhffgnkdcfaaDoorW.PrintWords Go.Proofs.YteodhffgnkdcfaaDoorW.PrintLast Go.Proofs.YteodhffgnkdcfaaDoorW.PrintMore

/-- May a shape be? -/
def okS (s : S29) : Prop := (∃ k : Nat, k ≤ 12 ∧ s.f4 = 2 ^ k) ∧ 1 ≤ s.f3 ∧ s.f3 ≤ s.f4 ∧ 1 ≤ s.f0 ∧ s.f0 ≤ 4096 ∧ 1 ≤ s.f1 ∧ s.f1 ≤ s.f0 ∧ 1 ≤ s.f2 ∧ s.f2 ≤ s.f1
theorem pow12 : ∀ k : Nat, k < 40 → (2 : Int) ^ k ≤ 4096 → k ≤ 12 := by decide +kernel
theorem pow12' : ∀ k : Nat, k ≤ 12 → 1 ≤ (2 : Int) ^ k ∧ (2 : Int) ^ k ≤ 4096 := by decide +kernel
theorem okS_p {s : S29} (h : okS s) : 1 ≤ s.f4 ∧ s.f4 ≤ 4096 := by
  obtain ⟨⟨k, hk, e⟩, _⟩ := h
  rw [e]
  exact pow12' k hk
theorem twoV_yes {a : Int} (h : (twoV a).2 = true) : ∃ k : Nat, k < 40 ∧ a = 2 ^ k := by
  unfold twoV at h
  split at h
  · rename_i k hk
    have h1 := List.find?_some hk
    have h2 := List.mem_of_find?_eq_some hk
    exact ⟨k, by simpa using h2, by have := of_decide_eq_true h1; exact this.symm⟩
  · cases h
theorem within_eq (a b : Int) : class_Check_1.f a b = some (decide (1 ≤ a ∧ a ≤ b)) := by
  unfold class_Check_1.f
  by_cases h : a ≥ 1
  · rw [if_pos h]; simp; omega
  · rw [if_neg h]; simp; omega
theorem classCheck_eq (s : S29) : ∃ c, class_Check.f s.f0 s.f1 s.f2 s.f3 s.f4 = some c ∧ (c = 0 ↔ okS s) := by
  unfold class_Check.f
  rw [two_eq]
  simp only [Option.bind_some, within_eq]
  by_cases h1 : (twoV s.f4).2 = true
  · rw [if_pos h1]
    obtain ⟨k, hk, e⟩ := twoV_yes h1
    by_cases h2 : s.f4 > 4096
    · rw [if_pos h2]
      refine ⟨140, rfl, fun h => absurd h (by decide), fun h => ?_⟩
      cases (show (140 : Int) = 0 from by have := okS_p h; omega)
    · rw [if_neg h2]
      have hk2 : k ≤ 12 := pow12 k hk (by omega)
      by_cases h3 : 1 ≤ s.f3 ∧ s.f3 ≤ s.f4
      · rw [decide_eq_true h3, if_pos rfl]
        by_cases h4 : 1 ≤ s.f0 ∧ s.f0 ≤ 4096
        · rw [decide_eq_true h4, if_pos rfl]
          by_cases h5 : 1 ≤ s.f1 ∧ s.f1 ≤ s.f0
          · rw [decide_eq_true h5, if_pos rfl]
            by_cases h6 : 1 ≤ s.f2 ∧ s.f2 ≤ s.f1
            · rw [decide_eq_true h6, if_pos rfl]
              exact ⟨0, rfl, fun _ => ⟨⟨k, hk2, e⟩, h3.1, h3.2, h4.1, h4.2, h5.1, h5.2, h6.1, h6.2⟩, fun _ => rfl⟩
            · rw [decide_eq_false h6, if_neg (by decide)]
              exact ⟨140, rfl, fun h => absurd h (by decide), fun h => absurd ⟨h.2.2.2.2.2.2.2.1, h.2.2.2.2.2.2.2.2⟩ h6⟩
          · rw [decide_eq_false h5, if_neg (by decide)]
            exact ⟨140, rfl, fun h => absurd h (by decide), fun h => absurd ⟨h.2.2.2.2.2.1, h.2.2.2.2.2.2.1⟩ h5⟩
        · rw [decide_eq_false h4, if_neg (by decide)]
          exact ⟨140, rfl, fun h => absurd h (by decide), fun h => absurd ⟨h.2.2.2.1, h.2.2.2.2.1⟩ h4⟩
      · rw [decide_eq_false h3, if_neg (by decide)]
        exact ⟨140, rfl, fun h => absurd h (by decide), fun h => absurd ⟨h.2.1, h.2.2.1⟩ h3⟩
  · rw [if_neg h1]
    refine ⟨140, rfl, fun h => absurd h (by decide), fun h => ?_⟩
    obtain ⟨⟨k, hk, e⟩, _⟩ := h
    exfalso
    apply h1
    rw [e, twoV_pow k (by omega)]
theorem heavy_eq (s : S29) (h : okS s) : class_Heavy.f s.f0 s.f1 s.f2 s.f3 s.f4 = some (decide (s.f3 < s.f0)) := by
  unfold class_Heavy.f
  obtain ⟨c, hc, hi⟩ := classCheck_eq s
  rw [hc]
  simp only [Option.bind_some]
  rw [if_pos (hi.2 h)]
  have hp := okS_p h
  obtain ⟨_, h1, h2, h3, h4, h5, h6, h7, h8⟩ := h
  by_cases hd : s.f3 < s.f0
  · rw [if_pos hd, decide_eq_true hd]
    unfold class_heavy_need.f
    by_cases hl : s.f1 ≥ s.f3
    · rw [if_pos hl]; rfl
    · rw [if_neg hl, w64 (by omega) (by omega), w64 (by omega) (by omega)]
      rw [up_eq]
      simp only [Option.bind_some]
      have hf : firstV [s.f0 - s.f1, s.f3 - s.f1] = 0 := firstV_ok.2 (by intro x hx; simp at hx; rcases hx with rfl | rfl <;> omega)
      have e : upV (s.f0 - s.f1) (s.f3 - s.f1) = ((s.f0 - s.f1 + (s.f3 - s.f1 - 1)) / (s.f3 - s.f1), 0) := by unfold upV; rw [if_pos hf, if_neg (by omega)]
      rw [e]
      have hge : 2 ≤ (s.f0 - s.f1 + (s.f3 - s.f1 - 1)) / (s.f3 - s.f1) := by
        rw [Int.le_ediv_iff_mul_le (by omega)]
        omega
      generalize (s.f0 - s.f1 + (s.f3 - s.f1 - 1)) / (s.f3 - s.f1) = q at *
      simp only [if_true]
      by_cases h9 : q > 8
      · rw [if_pos h9]; rfl
      · rw [if_neg h9]
        have : ¬ q = 1 := by omega
        simp [this]
  · rw [if_neg hd, decide_eq_false hd]
/-- May shapes share a core? -/
def okE (l : List S29) : Prop := l.length ≤ 8 ∧ ∀ s ∈ l, okS s ∧ s.f0 ≤ s.f3
theorem odd_eq (s : S29) : oddShape s = some (oddB s) ∧ (oddB s = false ↔ okS s ∧ s.f0 ≤ s.f3) := by
  have key : ∃ b, oddShape s = some b ∧ (b = false ↔ okS s ∧ s.f0 ≤ s.f3) := by
    unfold oddShape edf_Check_1.f
    obtain ⟨c, hc, hi⟩ := classCheck_eq s
    rw [hc]
    simp only [Option.bind_some]
    by_cases h0 : c = 0
    · have hk := hi.1 h0
      rw [if_pos h0, heavy_eq s hk]
      simp only [Option.bind_some]
      refine ⟨_, rfl, ?_⟩
      simp [hk]
    · rw [if_neg h0]
      exact ⟨true, rfl, by simp; intro h; exact absurd (hi.2 h) h0⟩
  obtain ⟨b, hb, hi⟩ := key
  have : oddB s = b := by unfold oddB; rw [hb]; rfl
  rw [this]
  exact ⟨hb, hi⟩
theorem edfCheck_eq (l : List S29) : ∃ c, edf_Check.f l = some c ∧ (c = 0 ∨ c = 150) ∧ (c = 0 ↔ okE l) := by
  unfold edf_Check.f
  by_cases h8 : 8 < l.length
  · rw [if_pos h8]
    exact ⟨150, rfl, .inr rfl, fun h => absurd h (by decide), fun h => absurd h.1 (by omega)⟩
  · rw [if_neg h8, if_pos (fun s _ => (odd_eq s).1)]
    by_cases ha : l.any oddB = true
    · rw [if_pos ha]
      refine ⟨150, rfl, .inr rfl, fun h => absurd h (by decide), fun h => ?_⟩
      obtain ⟨s, hs, hb⟩ := List.any_eq_true.1 ha
      have := (odd_eq s).2.2 (h.2 s hs)
      rw [this] at hb; cases hb
    · rw [if_neg ha]
      refine ⟨0, rfl, .inl rfl, fun _ => ⟨by omega, fun s hs => ?_⟩, fun _ => rfl⟩
      apply (odd_eq s).2.1
      cases hb : oddB s
      · rfl
      · exact absurd (List.any_eq_true.2 ⟨s, hs, hb⟩) ha

/-! ### Demand, and what blocks -/
def d1 (t : Int) (s : S29) : Int := if t < s.f3 then 0 else s.f0 * ((t - s.f3) / s.f4 + 1)
def D (l : List S29) (t : Int) : Int := (l.map (d1 t)).sum
def b1 (t : Int) (s : S29) : Int := if t < s.f3 then s.f2 else 0
def B (l : List S29) (t : Int) : Int := foldV (blk1 t) l
def Hz (l : List S29) : Int := foldV hor1 l
theorem d1_bd {s : S29} (h : okS s) (t : Int) (h0 : 0 ≤ t) (h1 : t ≤ 2199023255552) : 0 ≤ d1 t s ∧ d1 t s ≤ 9007199254745088 ∧ (s.f3 ≤ t → 1 ≤ d1 t s) := by
  have hp := okS_p h
  obtain ⟨_, g1, g2, g3, g4, _⟩ := h
  unfold d1
  by_cases hd : t < s.f3
  · rw [if_pos hd]; exact ⟨by omega, by omega, fun hh => by omega⟩
  · rw [if_neg hd]
    have q0 : 0 ≤ (t - s.f3) / s.f4 := Int.ediv_nonneg (by omega) (by omega)
    have q1 : (t - s.f3) / s.f4 ≤ t - s.f3 := Int.ediv_le_self _ (by omega)
    generalize (t - s.f3) / s.f4 = q at *
    have m1 : s.f0 * (q + 1) ≤ 4096 * (q + 1) := Int.mul_le_mul_of_nonneg_right g4 (by omega)
    have m2 : 1 * (q + 1) ≤ s.f0 * (q + 1) := Int.mul_le_mul_of_nonneg_right g3 (by omega)
    exact ⟨by omega, by omega, fun _ => by omega⟩
theorem dem1_eq {s : S29} (h : okS s) (t n : Int) (h0 : 0 ≤ t) (h1 : t ≤ 2199023255552) (hn : 0 ≤ n) (hn1 : n ≤ 1152921504606846976) : dem1 t n s = n + d1 t s := by
  have hb := d1_bd h t h0 h1
  have hp := okS_p h
  obtain ⟨_, g1, g2, g3, g4, _⟩ := h
  unfold dem1
  unfold d1 at hb ⊢
  by_cases hd : t < s.f3
  · rw [if_pos hd, if_pos hd]; omega
  · rw [if_neg hd] at hb ⊢
    rw [if_neg hd, w64 (x := t - s.f3) (by omega) (by omega), Int.tdiv_eq_ediv_of_nonneg (by omega)]
    have q0 : 0 ≤ (t - s.f3) / s.f4 := Int.ediv_nonneg (by omega) (by omega)
    have q1 : (t - s.f3) / s.f4 ≤ t - s.f3 := Int.ediv_le_self _ (by omega)
    generalize (t - s.f3) / s.f4 = q at *
    rw [w64 (x := q) (by omega) (by omega), w64 (x := q + 1) (by omega) (by omega), w64 (x := s.f0 * (q + 1)) (by omega) (by omega), w64 (by omega) (by omega)]
theorem D_nil (t : Int) : D [] t = 0 := rfl
theorem D_cons (s : S29) (l : List S29) (t : Int) : D (s :: l) t = d1 t s + D l t := by unfold D; rw [List.map_cons, List.sum_cons]
theorem D_bd {l : List S29} (h : ∀ s ∈ l, okS s) (t : Int) (h0 : 0 ≤ t) (h1 : t ≤ 2199023255552) : 0 ≤ D l t ∧ D l t ≤ 9007199254745088 * l.length := by
  induction l with
  | nil => exact ⟨by rw [D_nil]; omega, by rw [D_nil]; simp⟩
  | cons s l ih =>
    have a := d1_bd (h s (by simp)) t h0 h1
    have b := ih (fun x hx => h x (by simp [hx]))
    rw [D_cons, List.length_cons]
    exact ⟨by omega, by omega⟩
theorem foldl_dem {l : List S29} (h : ∀ s ∈ l, okS s) (hl : l.length ≤ 64) (t : Int) (h0 : 0 ≤ t) (h1 : t ≤ 2199023255552) : ∀ n : Int, 0 ≤ n → n + 9007199254745088 * l.length ≤ 1152921504606846976 → l.foldl (dem1 t) n = n + D l t := by
  induction l with
  | nil => intro n _ _; rw [D_nil]; simp
  | cons s l ih =>
    intro n hn hb
    rw [List.length_cons] at hb hl
    have hs := h s (by simp)
    have a := d1_bd hs t h0 h1
    rw [List.foldl_cons, dem1_eq hs t n h0 h1 hn (by omega), ih (fun x hx => h x (by simp [hx])) (by omega) _ (by omega) (by omega), D_cons]
    omega
theorem demand_eq {l : List S29} (h : okE l) (t : Int) (h0 : 0 ≤ t) (h1 : t ≤ 2199023255552) : edf_demand.f l t = some (D l t) := by
  unfold edf_demand.f
  have hk : ∀ s ∈ l, okS s := fun s hs => (h.2 s hs).1
  have := h.1
  rw [if_pos (fun s hs => by have := okS_p (hk s hs); omega)]
  unfold foldV
  rw [foldl_dem hk (by omega) t h0 h1 0 (by omega) (by omega), Int.zero_add]
theorem mx_eq (a b : Int) : mx a b = max a b := by unfold mx; rw [Int.max_def]; split <;> split <;> omega
theorem foldl_le_blk (t : Int) : ∀ (l : List S29) (n m : Int), n ≤ m → l.foldl (blk1 t) n ≤ l.foldl (blk1 t) m
  | [], n, m, h => h
  | s :: l, n, m, h => by
    rw [List.foldl_cons, List.foldl_cons]
    apply foldl_le_blk t l
    unfold blk1 mx
    split <;> (try split) <;> (try split) <;> omega
/-- B is the least number that no blocking node is above. -/
theorem B_le_iff (t : Int) (l : List S29) : ∀ (n x : Int), l.foldl (blk1 t) n ≤ x ↔ n ≤ x ∧ ∀ s ∈ l, t < s.f3 → s.f2 ≤ x := by
  induction l with
  | nil => intro n x; simp
  | cons s l ih =>
    intro n x
    rw [List.foldl_cons, ih]
    unfold blk1 mx
    simp only [List.mem_cons, forall_eq_or_imp]
    constructor
    · rintro ⟨a, b⟩
      by_cases h : t < s.f3
      · rw [if_pos h] at a
        by_cases g : n < s.f2
        · rw [if_pos g] at a; exact ⟨by omega, fun _ => a, b⟩
        · rw [if_neg g] at a; exact ⟨a, fun _ => by omega, b⟩
      · rw [if_neg h] at a; exact ⟨a, fun hh => absurd hh h, b⟩
    · rintro ⟨a, c, b⟩
      refine ⟨?_, b⟩
      by_cases h : t < s.f3
      · rw [if_pos h]
        have := c h
        split <;> omega
      · rw [if_neg h]; exact a
theorem B_le {t : Int} {l : List S29} {x : Int} : B l t ≤ x ↔ 0 ≤ x ∧ ∀ s ∈ l, t < s.f3 → s.f2 ≤ x := B_le_iff t l 0 x
theorem B_nonneg (l : List S29) (t : Int) : 0 ≤ B l t := (B_le.1 (Int.le_refl _)).1
theorem H_le_iff (l : List S29) : ∀ (n x : Int), l.foldl hor1 n ≤ x ↔ n ≤ x ∧ ∀ s ∈ l, s.f4 ≤ x := by
  induction l with
  | nil => intro n x; simp
  | cons s l ih =>
    intro n x
    rw [List.foldl_cons, ih]
    unfold hor1 mx
    simp only [List.mem_cons, forall_eq_or_imp]
    constructor
    · rintro ⟨a, b⟩
      by_cases g : n < s.f4
      · rw [if_pos g] at a; exact ⟨by omega, a, b⟩
      · rw [if_neg g] at a; exact ⟨a, by omega, b⟩
    · rintro ⟨a, c, b⟩
      refine ⟨?_, b⟩
      split <;> omega
theorem H_le {l : List S29} {x : Int} : Hz l ≤ x ↔ 0 ≤ x ∧ ∀ s ∈ l, s.f4 ≤ x := H_le_iff l 0 x
theorem H_mem (l : List S29) : ∀ n, l.foldl hor1 n = n ∨ ∃ s ∈ l, l.foldl hor1 n = s.f4 := by
  induction l with
  | nil => intro n; exact .inl rfl
  | cons s l ih =>
    intro n
    rw [List.foldl_cons]
    rcases ih (hor1 n s) with h | ⟨x, hx, h⟩
    · rw [h]
      unfold hor1 mx
      by_cases g : n < s.f4
      · rw [if_pos g]; exact .inr ⟨s, by simp, rfl⟩
      · rw [if_neg g]; exact .inl rfl
    · exact .inr ⟨x, by simp [hx], h⟩
theorem B_bd {l : List S29} (h : okE l) (t : Int) : B l t ≤ 4096 := B_le.2 ⟨by omega, fun s hs _ => by
  obtain ⟨_, _, _, _, g4, _, g6, _, g8⟩ := (h.2 s hs).1
  omega⟩
theorem H_bd {l : List S29} (h : okE l) : 0 ≤ Hz l ∧ Hz l ≤ 4096 := by
  refine ⟨?_, H_le.2 ⟨by omega, fun s hs => (okS_p (h.2 s hs).1).2⟩⟩
  exact (H_le.1 (Int.le_refl _)).1
theorem B_anti (l : List S29) {t u : Int} (h : t ≤ u) : B l u ≤ B l t := by
  have := B_le.1 (Int.le_refl (B l t))
  exact B_le.2 ⟨this.1, fun s hs hh => this.2 s hs (by omega)⟩
/-- Each period divides the horizon. -/
theorem H_dvd {l : List S29} (h : okE l) {s : S29} (hs : s ∈ l) : ∃ m, 1 ≤ m ∧ Hz l = m * s.f4 := by
  have hle : s.f4 ≤ Hz l := (H_le.1 (Int.le_refl _)).2 s hs
  have hp := okS_p (h.2 s hs).1
  rcases H_mem l 0 with e | ⟨x, hx, e⟩
  · have : Hz l = 0 := e
    omega
  · have e' : Hz l = x.f4 := e
    obtain ⟨⟨j, hj, ej⟩, _⟩ := (h.2 x hx).1
    obtain ⟨⟨i, hi, ei⟩, _⟩ := (h.2 s hs).1
    rw [e', ej, ei] at hle
    have hij : i ≤ j := by
      rcases Nat.lt_or_ge j i with hlt | hge
      · have h2 : (2 : Nat) ^ j < 2 ^ i := Nat.pow_lt_pow_right (by decide) hlt
        have e1 : ((2 ^ j : Nat) : Int) = (2 : Int) ^ j := by simp
        have e2 : ((2 ^ i : Nat) : Int) = (2 : Int) ^ i := by simp
        rw [← e1, ← e2] at hle
        generalize 2 ^ j = a at *
        generalize 2 ^ i = b at *
        omega
      · exact hge
    obtain ⟨d, rfl⟩ : ∃ d, j = i + d := ⟨j - i, by omega⟩
    refine ⟨2 ^ d, by have := pow_pos_int d; omega, ?_⟩
    rw [e', ej, ei, Int.pow_add, Int.mul_comm]
theorem d1_period {s : S29} (h : okS s) (m t : Int) (hm : 1 ≤ m) (h0 : 0 ≤ t) : d1 (t + m * s.f4) s = d1 t s + s.f0 * m := by
  have hp := okS_p h
  obtain ⟨_, g1, g2, g3, g4, _⟩ := h
  have hmp : s.f4 ≤ m * s.f4 := by
    have := Int.mul_le_mul_of_nonneg_right hm (show 0 ≤ s.f4 by omega)
    omega
  unfold d1
  rw [if_neg (by omega)]
  have e : (t + m * s.f4 - s.f3) / s.f4 = (t - s.f3) / s.f4 + m := by
    rw [show t + m * s.f4 - s.f3 = (t - s.f3) + m * s.f4 from by omega, Int.add_mul_ediv_right _ _ (by omega)]
  rw [e]
  by_cases hd : t < s.f3
  · rw [if_pos hd]
    have : (t - s.f3) / s.f4 = -1 := by
      rw [show t - s.f3 = (t - s.f3 + s.f4) + (-1) * s.f4 from by omega, Int.add_mul_ediv_right _ _ (by omega), Int.ediv_eq_zero_of_lt (by omega) (by omega)]
      rfl
    rw [this]
    rw [show (-1 + m + 1 : Int) = m from by omega]
    omega
  · rw [if_neg hd, show (t - s.f3) / s.f4 + m + 1 = ((t - s.f3) / s.f4 + 1) + m from by omega, Int.mul_add]
/-- In each horizon as much more is due. -/
theorem D_period {l : List S29} (h : okE l) (t : Int) (h0 : 0 ≤ t) : D l (t + Hz l) = D l t + D l (Hz l) := by
  have key : ∀ (m : List S29), (∀ s ∈ m, s ∈ l) → D m (t + Hz l) = D m t + D m (Hz l) := by
    intro m
    induction m with
    | nil => intro _; rfl
    | cons s m ih =>
      intro hm
      have hs := hm s (by simp)
      obtain ⟨k, hk, e⟩ := H_dvd h hs
      have i := ih (fun x hx => hm x (by simp [hx]))
      have hok := (h.2 s hs).1
      have e1 := d1_period hok k t hk h0
      have e2 := d1_period hok k 0 hk (by omega)
      have z : d1 0 s = 0 := by unfold d1; rw [if_pos (by have := hok.2.1; omega)]
      rw [← e] at e1 e2
      rw [Int.zero_add, z, Int.zero_add] at e2
      rw [D_cons, D_cons, D_cons, i, e1, e2]
      omega
  exact key l (fun _ h => h)
theorem D_zero {l : List S29} (h : okE l) : D l 0 = 0 := by
  have key : ∀ (m : List S29), (∀ s ∈ m, s ∈ l) → D m 0 = 0 := by
    intro m
    induction m with
    | nil => intro _; rfl
    | cons s m ih =>
      intro hm
      have hok := (h.2 s (hm s (by simp))).1
      rw [D_cons, ih (fun x hx => hm x (by simp [hx]))]
      unfold d1
      rw [if_pos (by have := hok.2.1; omega)]
      rfl
  exact key l (fun _ h => h)
/-- They fit: at all times. -/
def AllFit (l : List S29) : Prop := ∀ t, 1 ≤ t → 0 < D l t → D l t + B l t ≤ t
/-- They fit up to the horizon. -/
def HorFit (l : List S29) : Prop := ∀ t, 1 ≤ t → t ≤ Hz l → 0 < D l t → D l t + B l t ≤ t
/-- They fit at deadlines up to the horizon. -/
def DeadFit (l : List S29) : Prop := ∀ s ∈ l, ∀ i : Nat, s.f3 + i * s.f4 ≤ Hz l → D l (s.f3 + i * s.f4) + B l (s.f3 + i * s.f4) ≤ s.f3 + i * s.f4
theorem B_late {l : List S29} (h : okE l) {t : Int} (ht : Hz l ≤ t) : B l t = 0 := by
  have h1 := B_nonneg l t
  have h2 : B l t ≤ 0 := B_le.2 ⟨by omega, fun s hs hh => by
    have := (H_le.1 (Int.le_refl (Hz l))).2 s hs
    have := (h.2 s hs).1.2.2.1
    omega⟩
  omega
theorem D_le_of_hor {l : List S29} (h : okE l) (hf : HorFit l) : ∀ (n : Nat) (t : Int), t = n → D l t ≤ t := by
  intro n
  induction n using Nat.strongRecOn with
  | _ n ih =>
    intro t ht
    have hH := H_bd h
    by_cases hle : t ≤ Hz l
    · by_cases hz : t = 0
      · rw [hz, D_zero h]; omega
      · by_cases hd : 0 < D l t
        · have := hf t (by omega) hle hd
          have := B_nonneg l t
          omega
        · omega
    · by_cases hz : Hz l = 0
      · have e := D_period h t (by omega)
        rw [hz, Int.add_zero, D_zero h] at e
        have hnil : l = [] := by
          cases l with
          | nil => rfl
          | cons s l =>
            have a := (H_le.1 (Int.le_refl (Hz (s :: l)))).2 s (by simp)
            have b := okS_p (h.2 s (by simp)).1
            omega
        rw [hnil, D_nil]
        omega
      · have i := ih (n - (Hz l).toNat) (by omega) (t - Hz l) (by omega)
        have e := D_period h (t - Hz l) (by omega)
        rw [show t - Hz l + Hz l = t from by omega] at e
        have hHH : D l (Hz l) ≤ Hz l := by
          by_cases hd : 0 < D l (Hz l)
          · have := hf (Hz l) (by omega) (Int.le_refl _) hd
            have := B_nonneg l (Hz l)
            omega
          · omega
        omega
theorem all_of_hor {l : List S29} (h : okE l) (hf : HorFit l) : AllFit l := by
  intro t h1 hd
  by_cases hle : t ≤ Hz l
  · exact hf t h1 hle hd
  · rw [B_late h (by omega), Int.add_zero]
    exact D_le_of_hor h hf t.toNat t (by omega)
theorem hor_of_dead {l : List S29} (h : okE l) (hf : DeadFit l) : HorFit l := by
  -- go back from t, tick by tick, to the last time at which the demand grew
  have key : ∀ (n : Nat) (t : Int), t = n → t ≤ Hz l → 0 < D l t → D l t + B l t ≤ t := by
    intro n
    induction n with
    | zero => intro t ht _ hd; rw [ht, show ((0 : Nat) : Int) = 0 from rfl, D_zero h] at hd; omega
    | succ n ih =>
      intro t ht hle hd
      by_cases hg : ∃ s ∈ l, ∃ i : Nat, t = s.f3 + i * s.f4
      · obtain ⟨s, hs, i, e⟩ := hg
        rw [e] at hle ⊢
        exact hf s hs i hle
      · have same : ∀ (m : List S29), (∀ s ∈ m, s ∈ l) → D m t = D m (t - 1) := by
          intro m
          induction m with
          | nil => intro _; rfl
          | cons s m im =>
            intro hm
            have hs := hm s (by simp)
            have hp := okS_p (h.2 s hs).1
            rw [D_cons, D_cons, im (fun x hx => hm x (by simp [hx]))]
            have e : d1 t s = d1 (t - 1) s := by
              unfold d1
              by_cases h1 : t < s.f3
              · rw [if_pos h1, if_pos (by omega)]
              · have hne : t ≠ s.f3 := fun e => hg ⟨s, hs, 0, by simp [e]⟩
                rw [if_neg h1, if_neg (by omega)]
                have q0 : 0 ≤ (t - s.f3) / s.f4 := Int.ediv_nonneg (by omega) (by omega)
                have hr0 := Int.emod_nonneg (t - s.f3) (show s.f4 ≠ 0 by omega)
                have hr1 := Int.emod_lt_of_pos (t - s.f3) (show 0 < s.f4 by omega)
                have hm := Int.mul_ediv_add_emod (t - s.f3) s.f4
                have hrne : (t - s.f3) % s.f4 ≠ 0 := fun e => hg ⟨s, hs, ((t - s.f3) / s.f4).toNat, by
                  rw [Int.toNat_of_nonneg q0, Int.mul_comm]
                  omega⟩
                have e2 : (t - 1 - s.f3) / s.f4 = (t - s.f3) / s.f4 := by
                  have e3 : t - 1 - s.f3 = ((t - s.f3) % s.f4 - 1) + (t - s.f3) / s.f4 * s.f4 := by
                    rw [Int.mul_comm]
                    omega
                  rw [e3, Int.add_mul_ediv_right _ _ (by omega), Int.ediv_eq_zero_of_lt (by omega) (by omega), Int.zero_add]
                rw [e2]
            rw [e]
        have hs := same l (fun _ h => h)
        have := ih (t - 1) (by omega) (by omega) (by omega)
        have := B_anti l (show t - 1 ≤ t by omega)
        omega
  intro t h1 hle hd
  exact key t.toNat t (by omega) hle hd
theorem dead_of_all {l : List S29} (h : okE l) (hf : AllFit l) : DeadFit l := by
  intro s hs i hle
  have hok := (h.2 s hs).1
  have hp := okS_p hok
  have hH := H_bd h
  have hn : 0 ≤ (i : Int) * s.f4 := Int.mul_nonneg (by omega) (by omega)
  have h1 := hok.2.1
  generalize (i : Int) * s.f4 = q at *
  refine hf _ (by omega) ?_
  have hk : ∀ x ∈ l, okS x := fun x hx => (h.2 x hx).1
  have key : ∀ (m : List S29), (∀ x ∈ m, okS x) → s ∈ m → 1 ≤ D m (s.f3 + q) := by
    intro m
    induction m with
    | nil => intro _ hm; cases hm
    | cons x m im =>
      intro hx hm
      rw [D_cons]
      have a := d1_bd (hx x (by simp)) (s.f3 + q) (by omega) (by omega)
      have b := D_bd (l := m) (fun y hy => hx y (by simp [hy])) (s.f3 + q) (by omega) (by omega)
      rcases List.mem_cons.1 hm with e | hm
      · rw [← e] at a ⊢
        have := a.2.2 (by omega)
        omega
      · have := im (fun y hy => hx y (by simp [hy])) hm
        omega
  have := key l hk hs
  omega
theorem dead_iff {l : List S29} (h : okE l) : DeadFit l ↔ AllFit l := ⟨fun hf => all_of_hor h (hor_of_dead h hf), dead_of_all h⟩
theorem hor_iff {l : List S29} (h : okE l) : HorFit l ↔ AllFit l := ⟨all_of_hor h, fun hf t h1 _ hd => hf t h1 hd⟩
theorem horizon_eq (l : List S29) : (okE l → edf_Horizon.f l = some (Hz l)) ∧ (¬ okE l → edf_Horizon.f l = some 0) := by
  obtain ⟨c, hc, _, hi⟩ := edfCheck_eq l
  unfold edf_Horizon.f
  rw [hc]
  simp only [Option.bind_some]
  refine ⟨fun h => ?_, fun h => ?_⟩
  · rw [if_pos (hi.2 h)]; rfl
  · rw [if_neg (fun e => h (hi.1 e))]
end Go.Proofs.YteodhffgnkdcfaaDoor.Q

/- Plain facts: whether shapes fit. No memory and no Go in it. -/
set_option linter.unusedVariables false
namespace Go.Proofs.YteodhffgnkdcfaaDoor.Q
open Go.RowKit Go.Proofs.YteodhffgnkdcfaaDoorW.PrintWords Go.Proofs.YteodhffgnkdcfaaDoorW.PrintLast Go.Proofs.YteodhffgnkdcfaaDoorW.PrintMore
/-- A proposition's truth, as a Bool. -/
noncomputable def dec (P : Prop) : Bool := @decide P (Classical.propDecidable P)
theorem dec_iff {P : Prop} : dec P = true ↔ P := by unfold dec; exact @decide_eq_true_iff P (Classical.propDecidable P)
theorem dec_yes {P : Prop} (h : P) : dec P = true := dec_iff.2 h
theorem dec_no {P : Prop} (h : ¬ P) : dec P = false := by
  cases e : dec P
  · rfl
  · exact absurd (dec_iff.1 e) h
theorem dec_congr {P Q : Prop} (h : P ↔ Q) : dec P = dec Q := by rw [propext h]
theorem rdT_nat (l : List S29) (i : Nat) (h : i < l.length) : l.drop i = rd_T29 l (i : Int) :: l.drop (i + 1) := by
  rw [List.drop_eq_getElem_cons h]
  unfold rd_T29
  rw [Int.toNat_natCast, List.getD_eq_getElem?_getD, List.getElem?_eq_getElem h, Option.getD_some]
theorem rdT_mem (l : List S29) (i : Nat) (h : i < l.length) : rd_T29 l (i : Int) ∈ l := by
  unfold rd_T29
  rw [Int.toNat_natCast, List.getD_eq_getElem?_getD, List.getElem?_eq_getElem h, Option.getD_some]
  exact List.getElem_mem h

/-! ### Fits -/
def GoodFrom (l : List S29) (p t : Int) : Prop := ∀ j : Nat, t + j * p ≤ Hz l → D l (t + j * p) + B l (t + j * p) ≤ t + j * p
theorem good_past {l : List S29} {p t : Int} (hp : 1 ≤ p) (h : Hz l < t) : GoodFrom l p t := fun j hle => by
  have := Int.mul_nonneg (show (0 : Int) ≤ (j : Int) by omega) (show 0 ≤ p by omega)
  omega
theorem good_step {l : List S29} {p t : Int} (h : D l t + B l t ≤ t) : GoodFrom l p t ↔ GoodFrom l p (t + p) := by
  constructor
  · intro hg j hle
    have e : t + p + (j : Int) * p = t + ((j + 1 : Nat) : Int) * p := by rw [show ((j + 1 : Nat) : Int) = (j : Int) + 1 from by omega, Int.add_mul]; omega
    rw [e] at hle ⊢
    exact hg (j + 1) hle
  · intro hg j hle
    cases j with
    | zero => simpa using h
    | succ j =>
      have e : t + ((j + 1 : Nat) : Int) * p = t + p + (j : Int) * p := by rw [show ((j + 1 : Nat) : Int) = (j : Int) + 1 from by omega, Int.add_mul]; omega
      rw [e] at hle ⊢
      exact hg j hle
theorem fits_l1 {l : List S29} (h : okE l) (i : Nat) (hi : i ≤ 100) (b : Bool) (K0 : Nat) (hN : ∀ k, K0 ≤ k → edf_Fits.l0 k l l (l.length : Int) ((i : Int) + 1) = some b) (c0 c1 c2 c3 p : Int) (hp : 1 ≤ p) (hp2 : p ≤ 4096) (n : Nat) :
    ∀ (k : Nat) (t : Int), Hz l < t + n → 1 ≤ t → t ≤ 9000 → K0 + n < k → edf_Fits.l1 k l t l (l.length : Int) (i : Int) c0 c1 c2 c3 p = some (dec (GoodFrom l p t) && b) := by
  have hH := H_bd h
  have hz := (horizon_eq l).1 h
  induction n with
  | zero =>
    intro k t hl h1 h2 hk
    obtain ⟨k, rfl⟩ : ∃ m, k = m + 1 := ⟨k - 1, by omega⟩
    simp only [edf_Fits.l1]
    rw [hz]
    simp only [Option.bind_some]
    rw [if_neg (by omega), w64 (by omega) (by omega), hN k (by omega), dec_yes (good_past hp (by omega)), Bool.true_and]
  | succ n ih =>
    intro k t hl h1 h2 hk
    obtain ⟨k, rfl⟩ : ∃ m, k = m + 1 := ⟨k - 1, by omega⟩
    simp only [edf_Fits.l1]
    rw [hz]
    simp only [Option.bind_some]
    by_cases hle : t ≤ Hz l
    · have d0 := D_bd (l := l) (fun s hs => (h.2 s hs).1) t (by omega) (by omega)
      have bb := B_bd h t
      have b0 := B_nonneg l t
      have hlen := h.1
      rw [if_pos hle, demand_eq h t (by omega) (by omega)]
      simp only [Option.bind_some]
      rw [show edf_block.f l t = some (B l t) from rfl]
      simp only [Option.bind_some]
      rw [w64 (x := D l t + B l t) (by omega) (by omega)]
      by_cases hb : D l t + B l t > t
      · rw [if_pos hb, dec_no, Bool.false_and]
        intro hg
        have := hg 0 (by simpa using hle)
        simp at this
        omega
      · rw [if_neg hb, w64 (by omega) (by omega), ih k (t + p) (by omega) (by omega) (by omega) (by omega), dec_congr (good_step (p := p) (by omega : D l t + B l t ≤ t))]
    · rw [if_neg hle, w64 (by omega) (by omega), hN k (by omega), dec_yes (good_past hp (by omega)), Bool.true_and]
theorem fits_l0 {l : List S29} (h : okE l) (C : Nat) (hC : 4150 ≤ C) (d : Nat) : ∀ (i k : Nat), i + d = l.length → d * C < k → edf_Fits.l0 k l l (l.length : Int) (i : Int) = some (dec (∀ s ∈ l.drop i, GoodFrom l s.f4 s.f3)) := by
  have hlen := h.1
  induction d with
  | zero =>
    intro i k hi hk
    obtain ⟨k, rfl⟩ : ∃ m, k = m + 1 := ⟨k - 1, by omega⟩
    simp only [edf_Fits.l0]
    rw [if_neg (by omega), dec_yes]
    intro s hs
    rw [List.drop_eq_nil_of_le (by omega)] at hs
    cases hs
  | succ d ih =>
    intro i k hi hk
    obtain ⟨k, rfl⟩ : ∃ m, k = m + 1 := ⟨k - 1, by omega⟩
    have hlt : i < l.length := by omega
    have hs := rdT_mem l i hlt
    have hok := (h.2 _ hs).1
    have hp := okS_p hok
    have hH := H_bd h
    simp only [edf_Fits.l0]
    rw [if_pos (by omega), if_pos (by omega), if_pos (by omega)]
    rw [Nat.succ_mul] at hk
    obtain ⟨K0, hK0⟩ : ∃ K0, K0 = d * C + 1 := ⟨_, rfl⟩
    have hlow : ∀ k', K0 ≤ k' → d * C < k' := fun k' hk' => by omega
    have hN : ∀ k', K0 ≤ k' → edf_Fits.l0 k' l l (l.length : Int) ((i : Int) + 1) = some (dec (∀ s ∈ l.drop (i + 1), GoodFrom l s.f4 s.f3)) := fun k' hk' => by
      have := ih (i + 1) k' (by omega) (hlow k' hk')
      rw [show ((i + 1 : Nat) : Int) = (i : Int) + 1 from by omega] at this
      exact this
    have g1 := hok.2.1
    have g2 := hok.2.2.1
    obtain ⟨n, hn⟩ : ∃ n : Nat, n = 4100 := ⟨_, rfl⟩
    rw [fits_l1 h i (by omega) _ K0 hN _ _ _ _ _ hp.1 hp.2 n k _ (by omega) g1 (by omega) (by omega)]
    congr 1
    rw [rdT_nat l i hlt]
    generalize hx : rd_T29 l (i : Int) = x
    rw [Bool.eq_iff_iff, Bool.and_eq_true, dec_iff, dec_iff, dec_iff]
    simp only [List.mem_cons, forall_eq_or_imp]
theorem fits_eq (l : List S29) (k : Nat) (hk : 40000 < k) : edf_Fits.f k l = some (dec (okE l ∧ AllFit l)) := by
  obtain ⟨c, hc, _, hi⟩ := edfCheck_eq l
  unfold edf_Fits.f
  rw [hc]
  simp only [Option.bind_some]
  by_cases h : okE l
  · have hlen := h.1
    have hm : l.length * 4150 ≤ 8 * 4150 := Nat.mul_le_mul_right _ hlen
    have e := fits_l0 h 4150 (Nat.le_refl _) l.length 0 k (by omega) (by omega)
    rw [show ((0 : Nat) : Int) = 0 from rfl, List.drop_zero] at e
    rw [if_pos (hi.2 h), e]
    congr 1
    apply dec_congr
    constructor
    · intro hg
      exact ⟨h, (dead_iff h).1 (fun s hs i hle => hg s hs i hle)⟩
    · rintro ⟨_, ha⟩ s hs j hle
      exact (dead_iff h).2 ha s hs j hle
  · rw [if_neg (fun e => h (hi.1 e)), dec_no (fun e => h e.1)]

end Go.Proofs.YteodhffgnkdcfaaDoor.Q
