/- Plain facts on deques: checking, pushing, all numbers. No memory and no Go in it. -/
import Derived.Test.YtdmgigicbppjkaaDoorQx5
import Derived.Test.YtdmgigicbppjkaaDoorQx6
import Derived.Test.YtdmgigicbppjkaaDoorQx7
import Derived.Test.YtdmgigicbppjkaaDoorNumBasePure
set_option linter.unusedVariables false
set_option linter.unusedSimpArgs false
namespace Go.Proofs.YtdmgigicbppjkaaDoor.Q
open Go.RowKit Go.Proofs.YtdmgigicbppjkaaDoorW.PrintWords Go.Proofs.YtdmgigicbppjkaaDoorW.PrintLast Go.Proofs.YtdmgigicbppjkaaDoorW.PrintMore

/-- A deque that may be. -/
def okQ (n : Nat) (tp bt : Int) : Prop := (twoV (n : Int)).2 = true ∧ (n : Int) ≤ 64 ∧ 0 ≤ tp ∧ tp ≤ 1099511627775 ∧ tp - 1 ≤ bt ∧ bt ≤ tp + n
instance (n : Nat) (tp bt : Int) : Decidable (okQ n tp bt) := by unfold okQ; infer_instance
theorem twoV_pos {n : Nat} (h : (twoV (n : Int)).2 = true) : 1 ≤ n := by
  rcases Nat.eq_zero_or_pos n with h0 | h0
  · subst h0
    rw [twoV_no (fun k _ => by have := pow_pos_int k; simp; omega)] at h
    cases h
  · exact h0
theorem okQ.pos {n : Nat} {tp bt : Int} (h : okQ n tp bt) : 1 ≤ n := twoV_pos h.1
theorem qcheck_eq (l : List Int) (tp bt : Int) : deque_Check.f l tp bt = some (if okQ l.length tp bt then 0 else 120) := by
  unfold deque_Check.f
  rw [two_eq]
  simp only [Option.bind_some]
  by_cases h1 : (twoV (l.length : Int)).2 = true
  · rw [if_pos h1]
    by_cases h2 : (l.length : Int) > 64
    · rw [if_pos h2, if_neg (fun h : okQ _ _ _ => by have := h.2.1; omega)]
    · rw [if_neg h2, check_eq]
      simp only [Option.bind_some]
      by_cases h3 : code tp = 0
      · have h3' := code_ok.mp h3
        rw [if_pos h3, w64 (by omega) (by omega), w64 (by omega) (by omega)]
        by_cases h4 : bt < tp - 1
        · rw [if_pos h4, if_neg (fun h : okQ _ _ _ => by have := h.2.2.2.2.1; omega)]
        · rw [if_neg h4]
          by_cases h5 : bt > tp + (l.length : Int)
          · rw [if_pos h5, if_neg (fun h : okQ _ _ _ => by have := h.2.2.2.2.2; omega)]
          · rw [if_neg h5, if_pos ⟨h1, by omega, h3'.1, h3'.2, by omega, by omega⟩]
      · rw [if_neg h3, if_neg (fun h : okQ _ _ _ => h3 (code_ok.mpr ⟨h.2.2.1, h.2.2.2.1⟩))]
  · rw [if_neg h1, if_neg (fun h : okQ _ _ _ => h1 h.1)]
theorem qown_eq (l : List Int) (tp bt : Int) (h : l.length ≤ 130) : trefoillaw12_Own.f l tp bt = some (l, tp, bt) := by
  unfold trefoillaw12_Own.f
  simp only [Option.bind_some, List.length_nil, Nat.zero_add, List.nil_append]
  rw [if_pos (by omega)]
theorem qown2_eq (l : List Int) (tp bt : Int) (h : l.length ≤ 130) : deque_own.f l tp bt = some (l, tp, bt) := by
  unfold deque_own.f slices_Clone_int_int.f
  rw [if_pos (by omega)]
  rfl
theorem mx_pos {a : Int} (h : 0 ≤ a) : mx a 0 = a := by unfold mx; rw [if_neg (by omega)]
theorem place_eq (l : List Int) (tp bt a : Int) (h : 1 ≤ l.length) (h0 : 0 ≤ a) : deque_place.f l tp bt a = some (a % (l.length : Int)) := by
  unfold deque_place.f
  rw [if_neg (by omega), mx_pos h0]
theorem mod_in {n : Nat} (h : 1 ≤ n) (a : Int) : 0 ≤ a % (n : Int) ∧ a % (n : Int) < (n : Int) := ⟨Int.emod_nonneg _ (by omega), Int.emod_lt_of_pos _ (by omega)⟩
/-- What a push leaves. -/
def pushV (l : List Int) (tp bt n : Int) : List Int × Int × Int × Int :=
  if okQ l.length tp bt then (if bt < tp ∨ bt - tp = l.length then ([], 0, 0, 121) else (l.set (bt % (l.length : Int)).toNat n, tp, bt + 1, 0)) else ([], 0, 0, 120)
theorem push_eq (k : Nat) (l : List Int) (tp bt n : Int) : deque_Push.f (k + 1) l tp bt n = some (pushV l tp bt n) := by
  unfold deque_Push.f pushV
  rw [qcheck_eq]
  simp only [Option.bind_some]
  by_cases h : okQ l.length tp bt
  · have hp := h.pos
    obtain ⟨h1, h2, h3, h4, h5, h6⟩ := h
    have h : okQ l.length tp bt := ⟨h1, h2, h3, h4, h5, h6⟩
    rw [if_pos h, if_pos rfl, if_pos h]
    by_cases c : bt < tp
    · rw [if_pos c, if_pos (Or.inl c)]
      simp only [deque_Push.j0, if_true]
    · rw [if_neg c, w64 (by omega) (by omega)]
      by_cases d : bt - tp = l.length
      · rw [if_pos (Or.inr d)]
        simp only [deque_Push.j0, d, beq_self_eq_true, if_true]
      · have hm := mod_in hp bt
        rw [if_neg (fun e => e.elim c d)]
        simp only [deque_Push.j0, beq_eq_false_iff_ne.mpr d, Bool.false_eq_true, if_false]
        rw [qown2_eq l tp bt (by omega)]
        simp only [Option.bind_some]
        rw [place_eq l tp bt bt hp (by omega)]
        simp only [Option.bind_some]
        rw [if_pos hm.1, if_pos hm.2, w64 (by omega) (by omega)]
  · rw [if_neg h, if_neg (by decide), if_neg h]
/-- All numbers, from the top on. -/
def rowQ (l : List Int) (tp : Int) (d : Nat) : List Int := (List.range d).map fun (i : Nat) => rd l ((tp + (i : Int)) % (l.length : Int))
def itemsQ (l : List Int) (tp bt : Int) : List Int := if okQ l.length tp bt then rowQ l tp (bt - tp).toNat else []
theorem rowQ_len (l : List Int) (tp : Int) (d : Nat) : (rowQ l tp d).length = d := by simp [rowQ]
theorem rowQ_cons (l : List Int) (tp : Int) (d : Nat) : rowQ l tp (d + 1) = rd l (tp % (l.length : Int)) :: rowQ l (tp + 1) d := by
  unfold rowQ
  rw [List.range_succ_eq_map, List.map_cons, List.map_map]
  congr 1
  · simp
  · refine List.map_congr_left fun i _ => ?_
    show rd l ((tp + ((i + 1 : Nat) : Int)) % _) = rd l ((tp + 1 + (i : Int)) % _)
    congr 2
    push_cast
    omega
theorem items_l0 (l : List Int) (tp bt : Int) (hp : 1 ≤ l.length) : ∀ (d k : Nat) (acc : List Int) (i : Int), d < k → 0 ≤ i → i + d ≤ 1099511628000 → bt - i ≤ d → (0 ≤ bt - i → bt - i = d) → (bt - i < 0 → d = 0) → acc.length + d ≤ 200 →
    deque_Items.l0 k acc i l tp bt = some (acc ++ rowQ l i d)
  | 0, k + 1, acc, i, _, h0, hm, h1, h2, h3, h4 => by
    simp only [deque_Items.l0]
    rw [if_neg (by omega)]
    simp [rowQ]
  | d + 1, k + 1, acc, i, hk, h0, hm, h1, h2, h3, h4 => by
    simp only [deque_Items.l0]
    have hmi := mod_in hp i
    have hbi : bt - i = (d : Int) + 1 := by
      rcases Int.lt_or_le (bt - i) 0 with h | h
      · have := h3 h; omega
      · have := h2 h; push_cast at this; omega
    rw [if_pos (by omega), place_eq l tp bt i hp h0]
    simp only [Option.bind_some]
    rw [if_pos hmi.1, if_pos hmi.2, if_pos (by omega), w64 (by omega) (by omega), items_l0 l tp bt hp d k _ (i + 1) (by omega) (by omega) (by omega) (by omega) (by omega) (by omega) (by simp; omega), rowQ_cons]
    simp
theorem items_eq (k : Nat) (hk : 70 < k) (l : List Int) (tp bt : Int) : deque_Items.f k l tp bt = some (itemsQ l tp bt) := by
  unfold deque_Items.f itemsQ
  rw [qcheck_eq]
  simp only [Option.bind_some]
  by_cases h : okQ l.length tp bt
  · have hp := h.pos
    rw [if_pos h, if_pos rfl, if_pos h]
    obtain ⟨h1, h2, h3, h4, h5, h6⟩ := h
    rw [items_l0 l tp bt hp (bt - tp).toNat k [] tp (by omega) (by omega) (by omega) (by omega) (by omega) (by omega) (by simp; omega)]
    simp
  · rw [if_neg h, if_neg (by decide), if_neg h]
/-- Two rows of numbers are the same ones. -/
theorem ints_l0 (a b : List Int) (hl : a.length = b.length) (hm : a.length ≤ 1000) : ∀ (d k i : Nat), d < k → i + d = a.length → trefoilref02_Ints.l0 k a b (i : Int) = some (decide (a.drop i = b.drop i))
  | 0, k + 1, i, _, h => by
    simp only [trefoilref02_Ints.l0]
    rw [if_neg (by omega), List.drop_eq_nil_of_le (by omega), List.drop_eq_nil_of_le (by omega)]
    rfl
  | d + 1, k + 1, i, hk, h => by
    simp only [trefoilref02_Ints.l0]
    rw [if_pos (by omega), if_pos (by omega), if_pos (by omega), rd_drop (l := a) (i := i) (by omega), rd_drop (l := b) (i := i) (by omega)]
    by_cases c : rd a (i : Int) = rd b (i : Int)
    · rw [if_pos c, w64 (by omega) (by omega), show ((i : Int) + 1) = ((i + 1 : Nat) : Int) by push_cast; rfl, ints_l0 a b hl hm d k (i + 1) (by omega) (by omega), c]
      simp
    · rw [if_neg c]
      simp [c]
theorem ints_eq (k : Nat) (a b : List Int) (hm : a.length ≤ 1000) (hk : a.length < k) : trefoilref02_Ints.f k a b = some (decide (a = b)) := by
  unfold trefoilref02_Ints.f
  by_cases c : (a.length : Int) = (b.length : Int)
  · rw [if_pos c]
    have h := ints_l0 a b (by omega) hm a.length k 0 hk (by omega)
    simpa using h
  · rw [if_neg c]
    have : a ≠ b := fun e => c (by rw [e])
    simp [this]
theorem slEq_l0 (a b : List Int) (hl : a.length = b.length) (hm : a.length ≤ 1000) : ∀ (d k i : Nat), d < k → i + d = a.length → slices_Equal_int_int.l0 k a b (a.length : Int) (i : Int) = some (decide (a.drop i = b.drop i))
  | 0, k + 1, i, _, h => by
    simp only [slices_Equal_int_int.l0]
    rw [if_neg (by omega), List.drop_eq_nil_of_le (by omega), List.drop_eq_nil_of_le (by omega)]
    rfl
  | d + 1, k + 1, i, hk, h => by
    simp only [slices_Equal_int_int.l0]
    rw [if_pos (by omega), if_pos (by omega), if_pos (by omega), if_pos (by omega), rd_drop (l := a) (i := i) (by omega), rd_drop (l := b) (i := i) (by omega)]
    by_cases c : rd a (i : Int) = rd b (i : Int)
    · rw [if_pos c, w64 (by omega) (by omega), show ((i : Int) + 1) = ((i + 1 : Nat) : Int) by push_cast; rfl, slEq_l0 a b hl hm d k (i + 1) (by omega) (by omega), c]
      simp
    · rw [if_neg c]
      simp [c]
theorem slEq_eq (k : Nat) (a b : List Int) (hm : a.length ≤ 1000) (hk : a.length < k) : slices_Equal_int_int.f k a b = some (decide (a = b)) := by
  unfold slices_Equal_int_int.f
  by_cases c : (a.length : Int) = (b.length : Int)
  · rw [if_pos c]
    have h := slEq_l0 a b (by omega) hm a.length k 0 hk (by omega)
    simpa using h
  · rw [if_neg c]
    have : a ≠ b := fun e => c (by rw [e])
    simp [this]
theorem qsame_eq (k : Nat) (a b : List Int) (a1 a2 b1 b2 : Int) (hm : a.length ≤ 1000) (hk : a.length < k) : deque_Same.f k a a1 a2 b b1 b2 = some (decide (a = b) && (decide (a1 = b1) && decide (a2 = b2))) := by
  unfold deque_Same.f
  rw [slEq_eq k a b hm hk]
  simp only [Option.bind_some]
  by_cases c : a = b
  · rw [if_pos (by simp [c])]
    by_cases d : a1 = b1
    · rw [if_pos d]
      simp [c, d]
      by_cases e : a2 = b2 <;> simp [e]
    · rw [if_neg d]; simp [d]
  · rw [if_neg (by simp [c])]; simp [c]
theorem new_eq (n : Int) : deque_New.f n = some (if (twoV n).2 = true ∧ n ≤ 64 ∧ 0 ≤ n then (List.replicate n.toNat 0, 0, 0, 0) else ([], 0, 0, 120)) := by
  unfold deque_New.f
  rw [two_eq]
  simp only [Option.bind_some]
  by_cases h : (twoV n).2 = true
  · rw [if_pos h]
    by_cases h2 : n > 64
    · rw [if_pos h2, if_neg (fun e => by omega)]
    · rw [if_neg h2]
      have h0 : 0 ≤ n := by
        rcases Int.lt_or_le n 0 with c | c
        · rw [twoV_no (fun k _ => by have := pow_pos_int k; omega)] at h; cases h
        · exact c
      rw [if_pos h0, if_pos (by omega), if_pos ⟨h, by omega, h0⟩]
  · rw [if_neg h, if_neg (fun e => h e.1)]
end Go.Proofs.YtdmgigicbppjkaaDoor.Q
