/- Plain facts: the statement DequePushes, as numbers and lists, is true. No memory and no Go in it. -/
import Derived.Test.YtdmgigicbppjkaaDoorQx8
import Derived.Test.YtdmgigicbppjkaaDoorDeqAwakePure
set_option linter.unusedVariables false
namespace Go.Proofs.YtdmgigicbppjkaaDoor.Q
open Go.RowKit Go.Proofs.YtdmgigicbppjkaaDoorW.PrintWords Go.Proofs.YtdmgigicbppjkaaDoorW.PrintLast Go.Proofs.YtdmgigicbppjkaaDoorW.PrintMore
theorem rd_set_ne {l : List Int} {i j : Int} (v : Int) (hi : 0 ≤ i) (hj : 0 ≤ j) (h : i ≠ j) : rd (l.set j.toNat v) i = rd l i := by
  unfold rd
  rw [List.getD_eq_getElem?_getD, List.getD_eq_getElem?_getD, List.getElem?_set_ne (by omega)]
theorem rd_set_self {l : List Int} {j : Int} (v : Int) (hj : 0 ≤ j) (h : j < l.length) : rd (l.set j.toNat v) j = v := by
  unfold rd
  rw [List.getD_eq_getElem?_getD, List.getElem?_set_self (by omega), Option.getD_some]
theorem mod_ne {n a b : Int} (h0 : a < b) (h : b - a < n) : a % n ≠ b % n := by
  intro e
  have h1 : (b - a) % n = 0 := by
    rw [Int.sub_emod, e]; simp
  rw [Int.emod_eq_of_lt (by omega) h] at h1
  omega
theorem push_items (l : List Int) (tp bt n : Int) (h : okQ l.length tp bt) (h1 : ¬ bt < tp) (h2 : ¬ bt - tp = l.length) :
    itemsQ (l.set (bt % (l.length : Int)).toNat n) tp (bt + 1) = itemsQ l tp bt ++ [n] := by
  have hp := h.pos
  have hm := mod_in hp bt
  have h' : okQ (l.set (bt % (l.length : Int)).toNat n).length tp (bt + 1) := by
    rw [List.length_set]
    obtain ⟨a1, a2, a3, a4, a5, a6⟩ := h
    exact ⟨a1, a2, a3, a4, by omega, by omega⟩
  unfold itemsQ
  rw [if_pos h, if_pos h']
  obtain ⟨a1, a2, a3, a4, a5, a6⟩ := h
  rw [show (bt + 1 - tp).toNat = (bt - tp).toNat + 1 by omega]
  unfold rowQ
  rw [List.range_succ, List.map_append, List.length_set]
  congr 1
  · refine List.map_congr_left fun i hi => ?_
    have hi := List.mem_range.mp hi
    exact rd_set_ne n (mod_in hp _).1 hm.1 (mod_ne (by omega) (by omega))
  · simp only [List.map_cons, List.map_nil]
    rw [show tp + (((bt - tp).toNat : Nat) : Int) = bt by omega, rd_set_self n hm.1 hm.2]
theorem pushes_true (k : Nat) (hk : 80 ≤ k) (l : List Int) (a b n : Int) : trefoillaw12_DequePushes.j0 (k + 1) n true l a b = some true := by
  simp only [trefoillaw12_DequePushes.j0]
  rw [if_pos True.intro, qawake_eq _ hk]
  rfl
theorem dequePushes (K : Nat) (hK : 1000 < K) (l : List Int) (tp bt n : Int) : trefoillaw12_DequePushes.f K l tp bt n = some true := by
  obtain ⟨k, rfl⟩ : ∃ k, K = k + 2 := ⟨K - 2, by omega⟩
  unfold trefoillaw12_DequePushes.f
  rw [qawake_eq _ (by omega)]
  simp only [Option.bind_some, if_true]
  by_cases hl : (l.length : Int) > 130
  · rw [decide_eq_true hl]
    exact pushes_true (k + 1) (by omega) l tp bt n
  · rw [decide_eq_false hl]
    simp only [trefoillaw12_DequePushes.j0, Bool.false_eq_true, if_false]
    rw [qown_eq l tp bt (by omega)]
    simp only [Option.bind_some]
    rw [push_eq]
    simp only [Option.bind_some]
    by_cases h : okQ l.length tp bt
    · by_cases c : bt < tp ∨ bt - tp = l.length
      · have e : pushV l tp bt n = ([], 0, 0, 121) := by unfold pushV; rw [if_pos h, if_pos c]
        rw [e, if_neg (by decide), if_pos (by simp), qcheck_eq, if_pos h]
        simp
      · have e : pushV l tp bt n = (l.set (bt % (l.length : Int)).toNat n, tp, bt + 1, 0) := by unfold pushV; rw [if_pos h, if_neg c]
        have hi := push_items l tp bt n h (fun x => c (.inl x)) (fun x => c (.inr x))
        have hb := h.2.2
        have hp := h.pos
        have hm := mod_in hp bt
        have hl2 : (itemsQ l tp bt).length ≤ 64 := by
          unfold itemsQ; rw [if_pos h, rowQ_len]; have := h.2.1; omega
        have i1 : ∀ k, 70 < k → deque_Items.f k l tp bt = some (itemsQ l tp bt) := fun k hk => items_eq k hk l tp bt
        have i2 : ∀ k, 70 < k → deque_Items.f k (l.set (bt % (l.length : Int)).toNat n) tp (bt + 1) = some (itemsQ l tp bt ++ [n]) := fun k hk => by rw [items_eq k hk, hi]
        have i3 : deque_Check.f (l.set (bt % (l.length : Int)).toNat n) tp (bt + 1) = some 0 := by
          rw [qcheck_eq, if_pos (by rw [List.length_set]; obtain ⟨a1, a2, a3, a4, a5, a6⟩ := h; exact ⟨a1, a2, a3, a4, by omega, by omega⟩)]
        have i4 : trefoillaw12_Own.f (l.set (bt % (l.length : Int)).toNat n) tp (bt + 1) = some (l.set (bt % (l.length : Int)).toNat n, tp, bt + 1) := qown_eq _ _ _ (by rw [List.length_set]; omega)
        rw [e]
        clear e hi
        generalize itemsQ l tp bt = q at hl2 i1 i2
        generalize l.set (bt % (l.length : Int)).toNat n = x at i2 i3 i4 ⊢
        simp only [if_true]
        rw [i1 _ (by omega)]
        simp only [Option.bind_some]
        rw [i4]
        simp only [Option.bind_some]
        rw [i2 _ (by omega), Option.bind_some]
        rw [w64 (x := (q.length : Int) + 1) (by omega) (by omega), w64 (x := bt + 1) (by omega) (by omega), if_pos (by simp), if_pos (by omega), if_pos (by simp; omega)]
        rw [show ((q ++ [n]).take ((q.length : Int)).toNat) = q by simp]
        rw [ints_eq _ _ _ (by omega) (by omega)]
        simp only [Option.bind_some, decide_true, if_true]
        rw [if_pos (by simp; omega), if_pos (by unfold rd; simp)]
        try simp only [if_true]
        rw [i3]
        simp
    · have e : pushV l tp bt n = ([], 0, 0, 120) := by unfold pushV; rw [if_neg h]
      rw [e, if_neg (by decide), if_pos (by simp), qcheck_eq, if_neg h]
      simp
end Go.Proofs.YtdmgigicbppjkaaDoor.Q
