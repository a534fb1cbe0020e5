/- Plain facts on deques: the document's answer. No memory and no Go in it. -/
import Derived.Test.YtdmgigicbppjkaaDoorQx9
import Derived.Test.YtdmgigicbppjkaaDoorQx10
import Derived.Test.YtdmgigicbppjkaaDoorDeqPure
import Derived.Test.YtdmgigicbppjkaaDoorRefTwoPure
set_option linter.unusedVariables false
set_option linter.unusedSimpArgs false
namespace Go.Proofs.YtdmgigicbppjkaaDoor.Q
open Go.RowKit Go.Proofs.YtdmgigicbppjkaaDoorW.PrintWords Go.Proofs.YtdmgigicbppjkaaDoorW.PrintLast Go.Proofs.YtdmgigicbppjkaaDoorW.PrintMore
theorem refSize_eq (k : Nat) (hk : 40 < k) (n : Int) : trefoilref12_Size.f k n = some ((twoV n).2 && decide (n ≤ 64)) := by
  unfold trefoilref12_Size.f
  rw [refTwo_eq n k hk]
  simp only [Option.bind_some]
  by_cases h : (twoV n).2 = true
  · rw [if_pos h, h, Bool.true_and]
  · rw [if_neg h]
    simp [h]
theorem refCheck_eq (k : Nat) (hk : 40 < k) (l : List Int) (tp bt : Int) : trefoilref12_Check.f k l tp bt = some (decide (okQ l.length tp bt)) := by
  unfold trefoilref12_Check.f
  rw [refSize_eq k hk]
  simp only [Option.bind_some]
  by_cases h1 : (twoV (l.length : Int)).2 = true ∧ (l.length : Int) ≤ 64
  · rw [if_pos (by simp [h1.1, h1.2])]
    by_cases h2 : tp ≥ 0
    · rw [if_pos h2]
      by_cases h3 : tp ≤ 1099511627775
      · rw [if_pos h3, w64 (by omega) (by omega), w64 (by omega) (by omega)]
        by_cases h4 : bt ≥ tp - 1
        · rw [if_pos h4]
          by_cases h5 : bt ≤ tp + (l.length : Int)
          · rw [decide_eq_true h5, decide_eq_true ⟨h1.1, h1.2, h2, h3, h4, h5⟩]
          · rw [decide_eq_false h5, decide_eq_false (fun h : okQ _ _ _ => h5 h.2.2.2.2.2)]
        · rw [if_neg h4, decide_eq_false (fun h : okQ _ _ _ => h4 h.2.2.2.2.1)]
      · rw [if_neg h3, decide_eq_false (fun h : okQ _ _ _ => h3 h.2.2.2.1)]
    · rw [if_neg h2, decide_eq_false (fun h : okQ _ _ _ => h2 h.2.2.1)]
  · rw [if_neg (by simpa using h1), decide_eq_false (fun h : okQ _ _ _ => h1 ⟨h.1, h.2.1⟩)]
theorem refAt_eq (l : List Int) (tp bt a : Int) (hp : 1 ≤ l.length) (h0 : 0 ≤ a) : trefoilref12_At.f l tp bt a = some (rd l (a % (l.length : Int))) := by
  have hm := mod_in hp a
  unfold trefoilref12_At.f
  rw [if_neg (by omega), if_neg (by omega), Int.tmod_eq_emod_of_nonneg h0, if_pos hm.1, if_pos hm.2]
theorem refItems_l0 (l : List Int) (tp bt : Int) (hp : 1 ≤ l.length) (h0 : 0 ≤ tp) (hm : tp ≤ 1099511627775) (hb : bt ≤ 1099511628000) (hb0 : -1 ≤ bt) : ∀ (d k : Nat) (acc : List Int) (i : Nat), d < k → ((i : Int) + d = bt - tp ∨ (d = 0 ∧ bt - tp ≤ i)) → acc.length + d ≤ 200 → i + d ≤ 200 →
    trefoilref12_Items.l0 k acc (i : Int) l tp bt = some (acc ++ rowQ l (tp + i) d)
  | 0, k + 1, acc, i, _, h1, h4, h5 => by
    simp only [trefoilref12_Items.l0]
    rw [w64 (by omega) (by omega), if_neg (by omega)]
    simp [rowQ]
  | d + 1, k + 1, acc, i, hk, h1, h4, h5 => by
    simp only [trefoilref12_Items.l0]
    rw [w64 (by omega) (by omega), if_pos (by omega), w64 (by omega) (by omega), refAt_eq l tp bt _ hp (by omega)]
    simp only [Option.bind_some]
    rw [if_pos (by omega), w64 (by omega) (by omega), show ((i : Int) + 1) = ((i + 1 : Nat) : Int) by push_cast; rfl, refItems_l0 l tp bt hp h0 hm hb hb0 d k _ (i + 1) (by omega) (by omega) (by simp; omega) (by omega), rowQ_cons]
    simp [Int.add_assoc]
theorem refItems_eq (k : Nat) (hk : 70 < k) (l : List Int) (tp bt : Int) (h : okQ l.length tp bt) : trefoilref12_Items.f k l tp bt = some (itemsQ l tp bt) := by
  have hp := h.pos
  unfold trefoilref12_Items.f itemsQ
  rw [if_pos h]
  obtain ⟨h1, h2, h3, h4, h5, h6⟩ := h
  have e := refItems_l0 l tp bt hp h3 h4 (by omega) (by omega) (bt - tp).toNat k [] 0 (by omega) (by omega) (by simp; omega) (by omega)
  simpa using e
theorem refSame_eq (k : Nat) (a b : List Int) (a1 a2 b1 b2 : Int) (hm : a.length ≤ 1000) (hk : a.length < k) : trefoilref12_Same.f k a a1 a2 b b1 b2 = some (decide (a = b) && (decide (a1 = b1) && decide (a2 = b2))) := by
  unfold trefoilref12_Same.f
  rw [ints_eq k a b hm hk]
  simp only [Option.bind_some]
  by_cases c : a = b
  · rw [if_pos (by simp [c])]
    by_cases d : a1 = b1
    · rw [if_pos d]
      simp [c, d]
      by_cases e : a2 = b2 <;> simp [e]
    · rw [if_neg d]; simp [d]
  · rw [if_neg (by simp [c])]; simp [c]
theorem refPush_l0 (l : List Int) (tp bt n tp' bt' : Int) (hp : 1 ≤ l.length) (hl : l.length ≤ 64) (h0 : 0 ≤ bt) : ∀ (d k : Nat) (acc : List Int) (i : Nat), d < k → i + d = l.length → acc.length = i →
    trefoilref12_Push.l0 k n (i : Int) l tp bt acc tp' bt' = some (acc ++ (l.set (bt % (l.length : Int)).toNat n).drop i, tp', bt', 0)
  | 0, k + 1, acc, i, _, h1, h2 => by
    simp only [trefoilref12_Push.l0]
    rw [if_neg (by omega), List.drop_eq_nil_of_le (by rw [List.length_set]; omega), List.append_nil]
  | d + 1, k + 1, acc, i, hk, h1, h2 => by
    have hm := mod_in hp bt
    simp only [trefoilref12_Push.l0]
    have hd : (l.set (bt % (l.length : Int)).toNat n).drop i = (l.set (bt % (l.length : Int)).toNat n).getD i 0 :: (l.set (bt % (l.length : Int)).toNat n).drop (i + 1) := by
      have := rd_drop (l := l.set (bt % (l.length : Int)).toNat n) (i := i) (by rw [List.length_set]; omega)
      rw [this]
      unfold rd
      rw [Int.toNat_natCast]
    rw [if_pos (by omega), if_neg (by omega), Int.tmod_eq_emod_of_nonneg h0, hd]
    by_cases c : (i : Int) = bt % (l.length : Int)
    · have e : (l.set (bt % (l.length : Int)).toNat n).getD i 0 = n := by
        rw [show (bt % (l.length : Int)).toNat = i by omega, List.getD_eq_getElem?_getD, List.getElem?_set_self (by omega), Option.getD_some]
      rw [if_pos c, if_pos (by omega), w64 (by omega) (by omega), show ((i : Int) + 1) = ((i + 1 : Nat) : Int) by push_cast; rfl, refPush_l0 l tp bt n tp' bt' hp hl h0 d k _ (i + 1) (by omega) (by omega) (by simp [h2]), e]
      simp
    · have e : (l.set (bt % (l.length : Int)).toNat n).getD i 0 = rd l (i : Int) := by
        unfold rd
        rw [List.getD_eq_getElem?_getD, List.getElem?_set_ne (by omega), Int.toNat_natCast, List.getD_eq_getElem?_getD]
      rw [if_neg c, if_pos (by omega), if_pos (by omega), w64 (by omega) (by omega), show ((i : Int) + 1) = ((i + 1 : Nat) : Int) by push_cast; rfl, refPush_l0 l tp bt n tp' bt' hp hl h0 d k _ (i + 1) (by omega) (by omega) (by simp [h2]), e]
      simp
theorem refPush_eq (k : Nat) (hk : 200 < k) (l : List Int) (tp bt n : Int) : trefoilref12_Push.f k l tp bt n = some (pushV l tp bt n) := by
  obtain ⟨k, rfl⟩ : ∃ j, k = j + 1 := ⟨k - 1, by omega⟩
  unfold trefoilref12_Push.f pushV
  rw [refCheck_eq _ (by omega)]
  simp only [Option.bind_some, decide_eq_true_eq]
  by_cases h : okQ l.length tp bt
  · have hp := h.pos
    rw [if_pos h, if_pos h]
    obtain ⟨h1, h2, h3, h4, h5, h6⟩ := h
    rw [w64 (by omega) (by omega)]
    by_cases c : bt < tp
    · rw [if_pos (by omega), if_pos (Or.inl c)]
      simp only [trefoilref12_Push.j0, if_true]
    · rw [if_neg (by omega)]
      by_cases d : bt - tp = l.length
      · rw [if_pos (Or.inr d)]
        simp only [trefoilref12_Push.j0]
        rw [if_pos (by simp; omega)]
      · rw [if_neg (fun e => e.elim c d)]
        simp only [trefoilref12_Push.j0]
        rw [if_neg (by simp; omega), w64 (by omega) (by omega)]
        have e := refPush_l0 l tp bt n tp (bt + 1) hp (by omega) (by omega) l.length k [] 0 (by omega) (by omega) rfl
        simpa using e
  · rw [if_neg h, if_neg h]
end Go.Proofs.YtdmgigicbppjkaaDoor.Q
