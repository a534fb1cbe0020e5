/- Plain facts: the statement DequeOnce, as numbers and lists, is true. No memory and no Go in it. -/
import Derived.Test.YtdmgigicbppjkaaDoorQx15
import Derived.Test.YtdmgigicbppjkaaDoorDeqAwakePure
import Derived.Test.YtdmgigicbppjkaaDoorDeqPlayPure
set_option linter.unusedVariables false
set_option linter.unusedSimpArgs false
namespace Go.Proofs.YtdmgigicbppjkaaDoor.Q
open Go.RowKit Go.Proofs.YtdmgigicbppjkaaDoorW.PrintWords Go.Proofs.YtdmgigicbppjkaaDoorW.PrintLast Go.Proofs.YtdmgigicbppjkaaDoorW.PrintMore
theorem has_l0 (l : List Int) (n : Int) (hm : l.length ≤ 1000) : ∀ (d k i : Nat), d < k → i + d = l.length → trefoilref04_Has.l0 k l n (i : Int) = some (decide (n ∈ l.drop i))
  | 0, k + 1, i, _, h => by
    simp only [trefoilref04_Has.l0]
    rw [if_neg (by omega), List.drop_eq_nil_of_le (by omega)]
    simp
  | d + 1, k + 1, i, hk, h => by
    simp only [trefoilref04_Has.l0]
    rw [if_pos (by omega), if_pos (by omega), rd_drop (l := l) (i := i) (by omega)]
    by_cases c : rd l (i : Int) = n
    · rw [if_pos c]; simp [c]
    · rw [if_neg c, w64 (by omega) (by omega), show ((i : Int) + 1) = ((i + 1 : Nat) : Int) by push_cast; rfl, has_l0 l n hm d k (i + 1) (by omega) (by omega)]
      have c' : ¬ n = rd l (i : Int) := fun e => c e.symm
      simp [c']
theorem has_eq (k : Nat) (l : List Int) (n : Int) (hm : l.length ≤ 1000) (hk : l.length < k) : trefoilref04_Has.f k l n = some (decide (n ∈ l)) := by
  unfold trefoilref04_Has.f
  have := has_l0 l n hm l.length k 0 hk (by omega)
  simpa using this
section
variable (G L : List Int) (pu : Int) (r : List Int) (tp bt : Int)
/-- How often a number was got. -/
theorem once_l1 (hG : G.length ≤ 1000) (hL : L.length ≤ 1000) (n : Int) : ∀ (d k i m : Nat), L.length < k → i + d = G.length → m + G.length ≤ 3000 → m + (G.drop i).count n + (if n ∈ L then 1 else 0) = 1 →
    trefoillaw12_DequeOnce.l1 (k + d + 1) G pu true L n (m : Int) (i : Int) r tp bt = trefoillaw12_DequeOnce.l0 k G pu true L (wrap64 (n + 1)) r tp bt
  | 0, k, i, m, hk, hi, hm, h => by
    simp only [trefoillaw12_DequeOnce.l1]
    rw [if_neg (by omega), has_eq _ _ _ hL hk]
    simp only [Option.bind_some]
    rw [List.drop_eq_nil_of_le (by omega)] at h
    by_cases c : n ∈ L
    · rw [if_pos c] at h
      have : m = 0 := by simpa using h
      subst this
      rw [if_pos (by simpa using c), if_pos (by rw [w64 (by omega) (by omega)]; rfl)]
    · rw [if_neg c] at h
      have : m = 1 := by simpa using h
      subst this
      rw [if_neg (by simpa using c), if_pos (by rfl)]
  | d + 1, k, i, m, hk, hi, hm, h => by
    simp only [trefoillaw12_DequeOnce.l1, Nat.add_eq]
    rw [rd_drop (l := G) (i := i) (by omega)] at h
    rw [if_pos (by omega), if_pos (by omega), w64 (x := (i : Int) + 1) (by omega) (by omega), show ((i : Int) + 1) = ((i + 1 : Nat) : Int) by push_cast; rfl]
    by_cases c : rd G (i : Int) = n
    · rw [if_pos c, w64 (x := (m : Int) + 1) (by omega) (by omega), show ((m : Int) + 1) = ((m + 1 : Nat) : Int) by push_cast; rfl]
      rw [c, List.count_cons_self] at h
      exact once_l1 hG hL n d k (i + 1) (m + 1) hk (by omega) (by omega) (by omega)
    · rw [if_neg c]
      rw [List.count_cons_of_ne c] at h
      exact once_l1 hG hL n d k (i + 1) m hk (by omega) (by omega) h
/-- What is there still stands in the order in which it was pushed. -/
theorem once_l2 (hL : L.length ≤ 1000) (hs : L.Pairwise (· < ·)) (hsum : (G.length : Int) + L.length = pu) (hp : pu ≤ 3000) (hok : okQ r.length tp bt) : ∀ (d k i : Nat), 1 ≤ i → (i + d = L.length ∨ d = 0 ∧ L.length ≤ i) → i ≤ 2000 →
    trefoillaw12_DequeOnce.l2 (k + d + 1) G pu true L (i : Int) r tp bt = some true
  | 0, k, i, h1, hi, h2 => by
    simp only [trefoillaw12_DequeOnce.l2]
    rw [if_neg (by omega), if_pos trivial, w64 (by omega) (by omega), if_pos hsum, qcheck_eq, if_pos hok]
    rfl
  | d + 1, k, i, h1, hi, h2 => by
    simp only [trefoillaw12_DequeOnce.l2]
    rw [w64 (x := (i : Int) - 1) (by omega) (by omega), if_pos (by omega), if_pos (by omega), if_pos (by omega), if_pos (by omega)]
    have hlt : rd L ((i : Int) - 1) < rd L (i : Int) := by
      have := List.pairwise_iff_getElem.1 hs (i - 1) i (by omega) (by omega) (by omega)
      unfold rd
      rw [List.getD_eq_getElem?_getD, List.getD_eq_getElem?_getD, show ((i : Int) - 1).toNat = i - 1 by omega, Int.toNat_natCast, List.getElem?_eq_getElem (by omega), List.getElem?_eq_getElem (by omega)]
      exact this
    rw [if_neg (by omega), w64 (by omega) (by omega), show ((i : Int) + 1) = ((i + 1 : Nat) : Int) by push_cast; rfl]
    exact once_l2 hL hs hsum hp hok d k (i + 1) (by omega) (by omega) (by omega)
theorem once_l0 (hG : G.length ≤ 1000) (hL : L.length ≤ 1000) (m : Nat) (hm : m ≤ 3000) (h : ∀ n : Int, 1 ≤ n → n ≤ m → G.count n + (if n ∈ L then 1 else 0) = 1) : ∀ (d k n : Nat), 1 ≤ n → n + d = m + 1 → L.length < k →
    trefoillaw12_DequeOnce.l0 (k + d * (G.length + 2) + 1) G (m : Int) true L (n : Int) r tp bt = trefoillaw12_DequeOnce.l2 k G (m : Int) true L 1 r tp bt
  | 0, k, n, h1, hn, hk => by
    rw [Nat.zero_mul, Nat.add_zero]
    simp only [trefoillaw12_DequeOnce.l0]
    rw [if_neg (by omega)]
  | d + 1, k, n, h1, hn, hk => by
    rw [show k + (d + 1) * (G.length + 2) + 1 = (k + d * (G.length + 2) + 1) + G.length + 1 + 1 by rw [Nat.add_mul]; omega]
    generalize hq : k + d * (G.length + 2) + 1 = q
    simp only [trefoillaw12_DequeOnce.l0]
    rw [if_pos (by omega)]
    have hh := h n (by omega) (by omega)
    have := once_l1 G L (m : Int) r tp bt hG hL (n : Int) G.length q 0 0 (by omega) (by omega) (by omega) (by simpa using hh)
    rw [show ((0 : Nat) : Int) = 0 from rfl] at this
    rw [this, w64 (by omega) (by omega), show ((n : Int) + 1) = ((n + 1 : Nat) : Int) by push_cast; rfl, ← hq]
    exact once_l0 hG hL m hm h d k (n + 1) (by omega) (by omega) hk
end
theorem once_true (k : Nat) (hk : 80 ≤ k) (n : Int) (l : List S51) : trefoillaw12_DequeOnce.j0 (k + 1) n l true = some true := by
  simp only [trefoillaw12_DequeOnce.j0]
  rw [if_pos True.intro, qawake_eq _ hk]
  rfl
theorem dequeOnce (K : Nat) (hK : 1000000 < K) (n : Int) (l : List S51) : trefoillaw12_DequeOnce.f K n l = some true := by
  obtain ⟨k, rfl⟩ : ∃ k, K = k + 1 := ⟨K - 1, by omega⟩
  unfold trefoillaw12_DequeOnce.f
  rw [qawake_eq _ (by omega)]
  simp only [Option.bind_some, if_true]
  by_cases hl : (l.length : Int) > 200
  · rw [if_pos hl]
    exact once_true k (by omega) n l
  rw [if_neg hl, refSize_eq _ (by omega)]
  simp only [Option.bind_some]
  by_cases hz : (twoV n).2 = true ∧ n ≤ 64
  · rw [hz.1, decide_eq_true hz.2]
    simp only [trefoillaw12_DequeOnce.j0, Bool.and_self, Bool.not_true, Bool.false_eq_true, if_false]
    obtain ⟨r, tp, bt, G, pu, e, hpu, hok, hle, hperm, hs, _⟩ := play_ok n l (by omega) k (by omega) hz.1 hz.2
    rw [e]
    simp only [Option.bind_some]
    rw [items_eq _ (by omega)]
    have hi : itemsQ r tp bt = rowQ r tp (bt - tp).toNat := by unfold itemsQ; rw [if_pos hok]
    simp only [Option.bind_some]
    rw [hi]
    obtain ⟨L, hL⟩ : ∃ L, rowQ r tp (bt - tp).toNat = L := ⟨_, rfl⟩
    rw [hL] at hperm hs ⊢
    have hsum : G.length + L.length = pu := by
      have := hperm.length_eq
      rw [List.length_append] at this
      unfold upto at this
      simpa using this
    have hb : pu * (G.length + 2) ≤ 900 * 902 := Nat.mul_le_mul hpu (by omega)
    obtain ⟨q, hq⟩ : ∃ q, k = q + (L.length + 1) + pu * (G.length + 2) + 1 := ⟨k - (L.length + 1) - pu * (G.length + 2) - 1, by omega⟩
    have := once_l0 G L r tp bt (by omega) (by omega) pu (by omega) (fun x h1 h2 => once hperm hs h1 h2) pu (q + (L.length + 1)) 1 (by omega) (by omega) (by omega)
    rw [← hq] at this
    rw [show ((1 : Nat) : Int) = 1 from rfl] at this
    rw [this]
    have h3 := once_l2 G L (pu : Int) r tp bt (by omega) hs (by omega) (by omega) hok (L.length - 1) (q + (L.length - (L.length - 1))) 1 (by omega) (by omega) (by omega)
    rw [show q + (L.length - (L.length - 1)) + (L.length - 1) + 1 = q + (L.length + 1) by omega] at h3
    exact h3
  · have : ((twoV n).2 && decide (n ≤ 64)) = false := by
      by_cases h1 : (twoV n).2 = true
      · have h2 : ¬ n ≤ 64 := fun h => hz ⟨h1, h⟩
        simp [h2]
      · simp [h1]
    rw [this]
    exact once_true k (by omega) n l
end Go.Proofs.YtdmgigicbppjkaaDoor.Q
