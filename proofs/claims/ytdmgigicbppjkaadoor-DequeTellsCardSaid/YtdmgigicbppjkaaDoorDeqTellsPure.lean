/- Plain facts: the statement DequeTells, as numbers and lists, is true. No memory and no Go in it. -/
import Derived.Test.YtdmgigicbppjkaaDoorQx11
import Derived.Test.YtdmgigicbppjkaaDoorDeqAwakePure
import Derived.Test.YtdmgigicbppjkaaDoorDeqRefPure
set_option linter.unusedVariables false
namespace Go.Proofs.YtdmgigicbppjkaaDoor.Q
open Go.RowKit Go.Proofs.YtdmgigicbppjkaaDoorW.PrintWords Go.Proofs.YtdmgigicbppjkaaDoorW.PrintLast Go.Proofs.YtdmgigicbppjkaaDoorW.PrintMore
theorem tells_true (k : Nat) (hk : 80 ≤ k) (n : Int) (l : List Int) (a b : Int) (m : List Int) (c d : Int) : trefoillaw12_DequeTells.j0 (k + 1) n true l a b m c d = some true := by
  simp only [trefoillaw12_DequeTells.j0]
  rw [if_pos True.intro, qawake_eq _ hk]
  rfl
theorem pushV_len (l : List Int) (tp bt n : Int) (h : l.length ≤ 130) : (pushV l tp bt n).1.length ≤ 130 := by
  unfold pushV
  repeat' split
  all_goals simp [h]
theorem tells_j2 (k : Nat) (hk : 300 < k) (n : Int) (l : List Int) (tp bt : Int) (m : List Int) (c d : Int) (hl : l.length ≤ 130) (hm : m.length ≤ 130) (x : List Int × Int × Int × Int) (hx : x.1.length ≤ 130) :
    trefoillaw12_DequeTells.j2 (k + 1) x.2.2.2 x.2.2.2 (decide (okQ l.length tp bt)) false l tp bt m c d x.1 x.2.1 x.2.2.1 x.1 x.2.1 x.2.2.1 = some true := by
  simp only [trefoillaw12_DequeTells.j2, Bool.false_eq_true, if_false]
  rw [refSame_eq _ _ _ _ _ _ _ (by omega) (by omega)]
  simp only [Option.bind_some, decide_true, Bool.and_self, if_true]
  rw [qown_eq l tp bt hl]
  simp only [Option.bind_some]
  rw [qcheck_eq]
  simp only [Option.bind_some]
  rw [if_pos (by by_cases h : okQ l.length tp bt <;> simp [h]), qown_eq m c d hm]
  simp only [Option.bind_some]
  rw [qsame_eq _ _ _ _ _ _ _ (by omega) (by omega)]
  simp only [Option.bind_some]
  rw [refSame_eq _ _ _ _ _ _ _ (by omega) (by omega)]
  simp
theorem dequeTells (K : Nat) (hK : 1000 < K) (l : List Int) (tp bt : Int) (m : List Int) (c d n : Int) : trefoillaw12_DequeTells.f K l tp bt m c d n = some true := by
  obtain ⟨k, rfl⟩ : ∃ k, K = k + 4 := ⟨K - 4, by omega⟩
  unfold trefoillaw12_DequeTells.f
  rw [qawake_eq _ (by omega)]
  simp only [Option.bind_some, if_true]
  by_cases hl : (l.length : Int) > 130
  · rw [if_pos hl]
    exact tells_true (k + 3) (by omega) n l tp bt m c d
  rw [if_neg hl]
  by_cases hm : (m.length : Int) > 130
  · rw [decide_eq_true hm]
    exact tells_true (k + 3) (by omega) n l tp bt m c d
  rw [decide_eq_false hm]
  simp only [trefoillaw12_DequeTells.j0, Bool.false_eq_true, if_false]
  rw [qown_eq l tp bt (by omega)]
  simp only [Option.bind_some]
  rw [push_eq]
  simp only [Option.bind_some]
  rw [refPush_eq _ (by omega)]
  simp only [Option.bind_some]
  rw [new_eq]
  simp only [Option.bind_some]
  rw [items_eq _ (by omega)]
  simp only [Option.bind_some]
  rw [refCheck_eq _ (by omega), refSize_eq _ (by omega)]
  simp only [Option.bind_some, decide_eq_true_eq]
  have hj2 := tells_j2 (k + 1) (by omega) n l tp bt m c d (by omega) (by omega) (pushV l tp bt n) (pushV_len l tp bt n (by omega))
  have hj1 : ∀ z : List Int × Int × Int × Int, z = (if (twoV n).2 = true ∧ n ≤ 64 ∧ 0 ≤ n then (List.replicate n.toNat 0, 0, 0, 0) else ([], 0, 0, 120)) →
      trefoillaw12_DequeTells.j1 (k + 3) n (pushV l tp bt n).2.2.2 (pushV l tp bt n).2.2.2 z.2.2.2 (decide (okQ l.length tp bt)) ((z.2.2.2 == 0) != ((twoV n).2 && decide (n ≤ 64))) l tp bt m c d (pushV l tp bt n).1 (pushV l tp bt n).2.1 (pushV l tp bt n).2.2.1 (pushV l tp bt n).1 (pushV l tp bt n).2.1 (pushV l tp bt n).2.2.1 z.1 z.2.1 z.2.2.1 = some true := by
    intro z hz
    by_cases e : (twoV n).2 = true ∧ n ≤ 64 ∧ 0 ≤ n
    · rw [if_pos e] at hz
      subst hz
      simp only [trefoillaw12_DequeTells.j1, e.1, decide_eq_true e.2.1]
      simp only [beq_self_eq_true, Bool.and_self, bne_self_eq_false, Bool.false_eq_true, if_false, if_true, List.length_replicate]
      rw [if_pos (by omega)]
      exact hj2
    · rw [if_neg e] at hz
      subst hz
      have e' : ((twoV n).2 && decide (n ≤ 64)) = false := by
        by_cases e1 : (twoV n).2 = true
        · by_cases e2 : n ≤ 64
          · have e3 : ¬ 0 ≤ n := fun e3 => e ⟨e1, e2, e3⟩
            rw [twoV_no (fun k _ => by have := pow_pos_int k; omega)] at e1; cases e1
          · simp [e2]
        · simp [e1]
      simp only [trefoillaw12_DequeTells.j1, e']
      simp only [show ((120 : Int) == 0) = false by decide, bne_self_eq_false, Bool.false_eq_true, if_false, show ¬ (120 : Int) = 0 by decide, if_true, List.length_nil]
      exact hj2
  by_cases h : okQ l.length tp bt
  · have hl2 : (itemsQ l tp bt).length ≤ 64 := by
      unfold itemsQ; rw [if_pos h, rowQ_len]; have := h.2.1; have := h.2.2; omega
    rw [if_pos h, refItems_eq _ (by omega) l tp bt h]
    simp only [Option.bind_some]
    rw [ints_eq _ _ _ (by omega) (by omega)]
    simp only [Option.bind_some, decide_true, if_true]
    have := hj1 _ rfl
    rw [decide_eq_true h] at this ⊢
    exact this
  · have e : itemsQ l tp bt = [] := by unfold itemsQ; rw [if_neg h]
    rw [if_neg h, e, if_neg (by simp)]
    have := hj1 _ rfl
    rw [decide_eq_false h] at this ⊢
    exact this
end Go.Proofs.YtdmgigicbppjkaaDoor.Q
