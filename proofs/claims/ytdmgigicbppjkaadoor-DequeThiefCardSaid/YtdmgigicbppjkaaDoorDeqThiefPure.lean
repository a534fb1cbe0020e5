/- Plain facts: the statement DequeThief, as numbers and lists, is true. No memory and no Go in it. -/
import Derived.Test.YtdmgigicbppjkaaDoorQx16
import Derived.Test.YtdmgigicbppjkaaDoorDeqAwakePure
import Derived.Test.YtdmgigicbppjkaaDoorDeqPlayPure
set_option linter.unusedVariables false
set_option linter.unusedSimpArgs false
namespace Go.Proofs.YtdmgigicbppjkaaDoor.Q
open Go.RowKit Go.Proofs.YtdmgigicbppjkaaDoorW.PrintWords Go.Proofs.YtdmgigicbppjkaaDoorW.PrintLast Go.Proofs.YtdmgigicbppjkaaDoorW.PrintMore
/-- What isn't a pop. -/
def nopop (l : List S51) : List S51 := l.filter fun a => a.f0 != 1
theorem acts_drop {l : List S51} {i : Nat} (h : i < l.length) : l.drop i = rd_T51 l (i : Int) :: l.drop (i + 1) := by
  rw [List.drop_eq_getElem_cons h]
  unfold rd_T51
  rw [Int.toNat_natCast, List.getD_eq_getElem?_getD, List.getElem?_eq_getElem h]
  rfl
theorem thief_l0 (n : Int) (l : List S51) (hl : l.length ≤ 1000) : ∀ (d k i : Nat) (m : List S51), i + d = l.length → m.length ≤ i →
    trefoillaw12_DequeThief.l0 (k + d + 1) n l m (i : Int) = (trefoillaw12_play.f k n (m ++ nopop (l.drop i))).bind fun x => trefoillaw12_DequeThief.l1 k x.2.2.2.1 x.2.2.2.2.2 0
  | 0, k, i, m, hi, hm => by
    unfold trefoillaw12_DequeThief.l0
    rw [if_neg (by omega), List.drop_eq_nil_of_le (by omega)]
    simp [nopop]
  | d + 1, k, i, m, hi, hm => by
    unfold trefoillaw12_DequeThief.l0
    rw [if_pos (by omega), if_pos (by omega), w64 (by omega) (by omega), show ((i : Int) + 1) = ((i + 1 : Nat) : Int) by push_cast; rfl, acts_drop (l := l) (i := i) (by omega)]
    by_cases c : (rd_T51 l (i : Int)).f0 = 1
    · rw [if_pos c]
      have : nopop (rd_T51 l (i : Int) :: l.drop (i + 1)) = nopop (l.drop (i + 1)) := by unfold nopop; rw [List.filter_cons_of_neg (by simp [c])]
      rw [this]
      exact thief_l0 n l hl d k (i + 1) m (by omega) (by omega)
    · rw [if_neg c, if_pos (by omega)]
      have : nopop (rd_T51 l (i : Int) :: l.drop (i + 1)) = rd_T51 l (i : Int) :: nopop (l.drop (i + 1)) := by unfold nopop; rw [List.filter_cons_of_pos (by simp [c])]
      rw [this]
      have := thief_l0 n l hl d k (i + 1) (m ++ [⟨(rd_T51 l (i : Int)).f0⟩]) (by omega) (by simp; omega)
      refine this.trans ?_
      rw [List.append_assoc]
      rfl
theorem nopop_pick (l : List S51) (i : Nat) (h : i < (nopop l).length) : pick ((nopop l).map fun a => a.f0) i ≠ 0 := by
  intro e
  have hm := pick_lt h e
  have hx : rd_T51 (nopop l) (i : Int) ∈ nopop l := by
    unfold rd_T51
    rw [Int.toNat_natCast, List.getD_eq_getElem?_getD, List.getElem?_eq_getElem h]
    exact List.getElem_mem h
  have h1 : (rd_T51 (nopop l) (i : Int)).f0 ≠ 1 := by
    have := (List.mem_filter.1 hx).2
    simpa using this
  generalize (rd_T51 (nopop l) (i : Int)).f0 = x at hm h1
  unfold mn mx at hm
  (repeat' split at hm) <;> omega
theorem thief_l1 (G : List Int) (hG : G.length ≤ 1000) (h : ∀ i : Nat, i < G.length → rd G (i : Int) = (i : Int) + 1) : ∀ (d k i : Nat), d < k → i + d = G.length → trefoillaw12_DequeThief.l1 k G true (i : Int) = some true
  | 0, k + 1, i, _, hi => by
    simp only [trefoillaw12_DequeThief.l1]
    rw [if_neg (by omega)]
  | d + 1, k + 1, i, hk, hi => by
    simp only [trefoillaw12_DequeThief.l1]
    rw [if_pos (by omega), if_pos (by omega), w64 (by omega) (by omega), if_pos (h i (by omega)), show ((i : Int) + 1) = ((i + 1 : Nat) : Int) by push_cast; rfl]
    exact thief_l1 G hG h d k (i + 1) (by omega) (by omega)
theorem thief_true (k : Nat) (hk : 80 ≤ k) (n : Int) (l : List S51) : trefoillaw12_DequeThief.j0 (k + 1) n l true = some true := by
  simp only [trefoillaw12_DequeThief.j0]
  rw [if_pos True.intro, qawake_eq _ hk]
  rfl
theorem dequeThief (K : Nat) (hK : 5000 < K) (n : Int) (l : List S51) : trefoillaw12_DequeThief.f K n l = some true := by
  obtain ⟨k, rfl⟩ : ∃ k, K = k + 1 := ⟨K - 1, by omega⟩
  unfold trefoillaw12_DequeThief.f
  rw [qawake_eq _ (by omega)]
  simp only [Option.bind_some, if_true]
  by_cases hl : (l.length : Int) > 200
  · rw [if_pos hl]
    exact thief_true k (by omega) n l
  rw [if_neg hl, refSize_eq _ (by omega)]
  simp only [Option.bind_some]
  by_cases hz : (twoV n).2 = true ∧ n ≤ 64
  · rw [hz.1, decide_eq_true hz.2]
    simp only [trefoillaw12_DequeThief.j0, Bool.and_self, Bool.not_true, Bool.false_eq_true, if_false]
    obtain ⟨q, hq⟩ : ∃ q, k = q + l.length + 1 := ⟨k - l.length - 1, by omega⟩
    have h0 := thief_l0 n l (by omega) l.length q 0 [] (by omega) (by simp)
    rw [← hq] at h0
    rw [show ((0 : Nat) : Int) = 0 from rfl, List.drop_zero, List.nil_append] at h0
    have hlen : (nopop l).length ≤ 200 := by
      have := List.length_filter_le (fun a : S51 => a.f0 != 1) l
      unfold nopop
      omega
    obtain ⟨r, tp, bt, G, pu, e, hpu, hok, hle, hperm, hs, hall⟩ := play_ok n (nopop l) (by omega) q (by omega) hz.1 hz.2
    rw [h0, e]
    simp only [Option.bind_some]
    have he := hall (nopop_pick l)
    have hG : G.length ≤ 900 := by
      have := congrArg List.length he
      rw [List.length_append] at this
      have h2 : (upto pu).length = pu := by unfold upto; simp
      omega
    refine thief_l1 G (by omega) (fun i hi => ?_) G.length q 0 (by omega) (by omega)
    unfold rd
    rw [Int.toNat_natCast, List.getD_eq_getElem?_getD]
    have : (G ++ rowQ r tp (bt - tp).toNat)[i]? = G[i]? := List.getElem?_append_left hi
    rw [← this, he]
    have hip : i < pu := by
      have := congrArg List.length he
      rw [List.length_append] at this
      have h2 : (upto pu).length = pu := by unfold upto; simp
      omega
    unfold upto
    rw [List.getElem?_map, List.getElem?_range hip]
    rfl
  · have : ((twoV n).2 && decide (n ≤ 64)) = false := by
      by_cases h1 : (twoV n).2 = true
      · have h2 : ¬ n ≤ 64 := fun h => hz ⟨h1, h⟩
        simp [h2]
      · simp [h1]
    rw [this]
    exact thief_true k (by omega) n l
end Go.Proofs.YtdmgigicbppjkaaDoor.Q
