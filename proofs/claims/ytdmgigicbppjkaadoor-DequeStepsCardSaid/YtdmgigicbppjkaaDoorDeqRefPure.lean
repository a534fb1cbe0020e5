/- Plain facts on deques: the document's answer. No memory and no Go in it. -/
import Derived.Test.YtdmgigicbppjkaaDoorQy9
import Derived.Test.YtdmgigicbppjkaaDoorQy10
import Derived.Test.YtdmgigicbppjkaaDoorDeqPure
import Derived.Test.YtdmgigicbppjkaaDoorRefTwoPure
set_option linter.unusedVariables false
set_option linter.unusedSimpArgs false
namespace Go.Proofs.YtdmgigicbppjkaaDoor.Q
open Go.RowKit Go.Proofs.YtdmgigicbppjkaaDoorW.PrintWords Go.Proofs.YtdmgigicbppjkaaDoorW.PrintLast Go.Proofs.YtdmgigicbppjkaaDoorW.PrintMore
theorem refSize_eq (k : Nat) (hk : 40 < k) (n : Int) : trefoilref12_Size.f k n = some ((twoV n).2 && decide (n ≤ 64)) := by
  unfold trefoilref12_Size.f
  rw [refTwo_eq n k hk]
  simp only [Option.bind_some]
  by_cases h : (twoV n).2 = true
  · rw [if_pos h, h, Bool.true_and]
  · rw [if_neg h]
    simp [h]
theorem refCheck_eq (k : Nat) (hk : 40 < k) (l : List Int) (tp bt : Int) : trefoilref12_Check.f k l tp bt = some (decide (okQ l.length tp bt)) := by
  unfold trefoilref12_Check.f
  rw [refSize_eq k hk]
  simp only [Option.bind_some]
  by_cases h1 : (twoV (l.length : Int)).2 = true ∧ (l.length : Int) ≤ 64
  · rw [if_pos (by simp [h1.1, h1.2])]
    by_cases h2 : tp ≥ 0
    · rw [if_pos h2]
      by_cases h3 : tp ≤ 1099511627775
      · rw [if_pos h3, w64 (by omega) (by omega), w64 (by omega) (by omega)]
        by_cases h4 : bt ≥ tp - 1
        · rw [if_pos h4]
          by_cases h5 : bt ≤ tp + (l.length : Int)
          · rw [decide_eq_true h5, decide_eq_true ⟨h1.1, h1.2, h2, h3, h4, h5⟩]
          · rw [decide_eq_false h5, decide_eq_false (fun h : okQ _ _ _ => h5 h.2.2.2.2.2)]
        · rw [if_neg h4, decide_eq_false (fun h : okQ _ _ _ => h4 h.2.2.2.2.1)]
      · rw [if_neg h3, decide_eq_false (fun h : okQ _ _ _ => h3 h.2.2.2.1)]
    · rw [if_neg h2, decide_eq_false (fun h : okQ _ _ _ => h2 h.2.2.1)]
  · rw [if_neg (by simpa using h1), decide_eq_false (fun h : okQ _ _ _ => h1 ⟨h.1, h.2.1⟩)]
theorem refAt_eq (l : List Int) (tp bt a : Int) (hp : 1 ≤ l.length) (h0 : 0 ≤ a) : trefoilref12_At.f l tp bt a = some (rd l (a % (l.length : Int))) := by
  have hm := mod_in hp a
  unfold trefoilref12_At.f
  rw [if_neg (by omega), if_neg (by omega), Int.tmod_eq_emod_of_nonneg h0, if_pos hm.1, if_pos hm.2]
theorem refSame_eq (k : Nat) (a b : List Int) (a1 a2 b1 b2 : Int) (hm : a.length ≤ 1000) (hk : a.length < k) : trefoilref12_Same.f k a a1 a2 b b1 b2 = some (decide (a = b) && (decide (a1 = b1) && decide (a2 = b2))) := by
  unfold trefoilref12_Same.f
  rw [ints_eq k a b hm hk]
  simp only [Option.bind_some]
  by_cases c : a = b
  · rw [if_pos (by simp [c])]
    by_cases d : a1 = b1
    · rw [if_pos d]
      simp [c, d]
      by_cases e : a2 = b2 <;> simp [e]
    · rw [if_neg d]; simp [d]
  · rw [if_neg (by simp [c])]; simp [c]
end Go.Proofs.YtdmgigicbppjkaaDoor.Q
