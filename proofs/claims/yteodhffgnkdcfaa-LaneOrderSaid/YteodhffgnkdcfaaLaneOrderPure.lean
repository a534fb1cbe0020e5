/- Plain facts: in whichever order jobs are added, the lane is the same. No memory and no Go in it. -/
import Derived.Test.YteodhffgnkdcfaaQx27
import Derived.Test.YteodhffgnkdcfaaLanePure
set_option linter.unusedVariables false
set_option linter.unusedSimpArgs false
namespace Go.Proofs.Yteodhffgnkdcfaa.Q
open Go.RowKit Go.Proofs.YteodhffgnkdcfaaW.PrintWords Go.Proofs.YteodhffgnkdcfaaW.PrintLast Go.Proofs.YteodhffgnkdcfaaW.PrintMore

theorem add_total {l : List J3} {run : Int} {x0 x1 : Int} {x2 : List Int} {k : Nat} (hl : l.length ≤ 1000) (hk : 1000 < k) : ∃ L R E, lane_Add.f k l run x0 x1 x2 = some (L, R, E) ∧ (E = 0 ↔ okL l run ∧ okJ ⟨x0, x1, x2⟩ ∧ ¬ hasT l x0) ∧ (E = 0 → L = insJ l ⟨x0, x1, x2⟩ ∧ R = run) ∧ (E ≠ 0 → L = [] ∧ R = 0) := by
  by_cases c : okL l run ∧ okJ ⟨x0, x1, x2⟩
  · by_cases d : hasT l x0
    · exact ⟨_, _, _, add_task hk c.1 c.2 d, ⟨fun h => absurd h (by decide), fun h => absurd d h.2.2⟩, fun h => absurd h (by decide), fun _ => ⟨rfl, rfl⟩⟩
    · exact ⟨_, _, _, add_yes hk c.1 c.2 d, ⟨fun _ => ⟨c.1, c.2, d⟩, fun _ => rfl⟩, fun _ => ⟨rfl, rfl⟩, fun h => absurd rfl h⟩
  · exact ⟨_, _, _, add_form hl hk c, ⟨fun h => absurd h (by decide), fun h => absurd ⟨h.1, h.2.1⟩ c⟩, fun h => absurd h (by decide), fun _ => ⟨rfl, rfl⟩⟩
/-- Two jobs, one after the other. -/
theorem add_two {l : List J3} {run : Int} {x0 x1 y0 y1 : Int} {x2 y2 : List Int} {k : Nat} (hl : l.length ≤ 100) (hk : 1000 < k) : ∃ L R E M S F, lane_Add.f k l run x0 x1 x2 = some (L, R, E) ∧ lane_Add.f k L R y0 y1 y2 = some (M, S, F) ∧ (E = 0 ∧ F = 0 ↔ okL l run ∧ okJ ⟨x0, x1, x2⟩ ∧ okJ ⟨y0, y1, y2⟩ ∧ ¬ hasT l x0 ∧ ¬ hasT l y0 ∧ x0 ≠ y0) ∧ (E = 0 ∧ F = 0 → M = insJ (insJ l ⟨x0, x1, x2⟩) ⟨y0, y1, y2⟩ ∧ S = run) := by
  obtain ⟨L, R, E, h1, h2, h3, h4⟩ := add_total (l := l) (run := run) (x0 := x0) (x1 := x1) (x2 := x2) (by omega) hk
  by_cases c : E = 0
  · obtain ⟨hL, hR⟩ := h3 c
    have hE := h2.1 c
    obtain ⟨M, S, F, g1, g2, g3, g4⟩ := add_total (l := L) (run := R) (x0 := y0) (x1 := y1) (x2 := y2) (by rw [hL, insJ_len]; omega) hk
    refine ⟨L, R, E, M, S, F, h1, g1, ?_, ?_⟩
    · constructor
      · rintro ⟨-, hF⟩
        obtain ⟨q1, q2, q3⟩ := g2.1 hF
        rw [hL, hasT_ins] at q3
        exact ⟨hE.1, hE.2.1, q2, hE.2.2, fun h => q3 (.inr h), fun h => q3 (.inl h)⟩
      · rintro ⟨q1, q2, q3, q4, q5, q6⟩
        refine ⟨c, g2.2 ⟨?_, q3, ?_⟩⟩
        · rw [hL, hR]; exact insJ_ok q1 q2 q4
        · rw [hL, hasT_ins]
          rintro (h | h)
          · exact q6 h
          · exact q5 h
    · rintro ⟨-, hF⟩
      obtain ⟨q1, q2⟩ := g3 hF
      rw [q1, q2, hL, hR]
      exact ⟨rfl, rfl⟩
  · obtain ⟨hL, hR⟩ := h4 c
    obtain ⟨M, S, F, g1, g2, g3, g4⟩ := add_total (l := L) (run := R) (x0 := y0) (x1 := y1) (x2 := y2) (by rw [hL]; simp) hk
    exact ⟨L, R, E, M, S, F, h1, g1, ⟨fun h => absurd h.1 c, fun h => absurd (h2.2 ⟨h.1, h.2.1, h.2.2.2.1⟩) c⟩, fun h => absurd h.1 c⟩
theorem laneOrder (K : Nat) (hK : 2000 < K) (l : List J3) (a j0 j1 : Int) (j2 : List Int) (i0 i1 : Int) (i2 : List Int) : trefoillaw18_LaneOrder.f K l a j0 j1 j2 i0 i1 i2 = some true := by
  obtain ⟨k, rfl⟩ : ∃ k, K = k + 1 + 1 := ⟨K - 2, by omega⟩
  have hend : trefoillaw18_LaneOrder.j0 (k + 1 + 1) true l a j0 j1 j2 i0 i1 i2 = some true := by
    rw [trefoillaw18_LaneOrder.j0]
    rw [if_pos rfl, lawake_eq (k + 1) (by omega)]
    rfl
  unfold trefoillaw18_LaneOrder.f
  rw [lawake_eq (k + 1 + 1) (by omega)]
  simp only [Option.bind_some, if_true]
  by_cases cf : fewL l
  · rw [few_yes (by omega) cf]
    simp only [Option.bind_some, if_true]
    by_cases c1 : (j2.length : Int) > 70
    · rw [if_pos c1]; exact hend
    rw [if_neg c1]
    by_cases c2 : (i2.length : Int) > 70
    · rw [decide_eq_true c2]; exact hend
    rw [decide_eq_false c2]
    have hl : l.length ≤ 12 := cf.1
    rw [trefoillaw18_LaneOrder.j0]
    rw [if_neg (by decide), lown_eq (k := k + 1) (by omega) (fun x hx => by have := cf.2 x hx; omega) (by omega)]
    simp only [Option.bind_some]
    obtain ⟨L, R, E, M, S, F, h1, h2, h3, h4⟩ := add_two (l := l) (run := a) (x0 := j0) (x1 := j1) (x2 := j2) (y0 := i0) (y1 := i1) (y2 := i2) (k := k + 1) (by omega) (by omega)
    obtain ⟨L', R', G, M', S', H, g1, g2, g3, g4⟩ := add_two (l := l) (run := a) (x0 := i0) (x1 := i1) (x2 := i2) (y0 := j0) (y1 := j1) (y2 := j2) (k := k + 1) (by omega) (by omega)
    rw [h1]
    simp only [Option.bind_some]
    rw [h2]
    simp only [Option.bind_some]
    rw [g1]
    simp only [Option.bind_some]
    rw [g2]
    simp only [Option.bind_some]
    by_cases cc : E = 0 ∧ F = 0
    · have hc := h3.1 cc
      have cc' : G = 0 ∧ H = 0 := g3.2 ⟨hc.1, hc.2.2.1, hc.2.1, hc.2.2.2.2.1, hc.2.2.2.1, fun e => hc.2.2.2.2.2 e.symm⟩
      obtain ⟨m1, m2⟩ := h4 cc
      obtain ⟨n1, n2⟩ := g4 cc'
      rw [if_pos cc.1, if_pos cc.2, if_pos cc'.1]
      have hM : M = M' := by rw [m1, n1]; exact (insJ_comm (i := ⟨j0, j1, j2⟩) (j := ⟨i0, i1, i2⟩) hc.2.2.2.2.2 l)
      have hS : S = S' := by rw [m2, n2]
      subst hM hS
      have hok : okL M S := by
        rw [m1, m2]
        refine insJ_ok (insJ_ok hc.1 hc.2.1 hc.2.2.2.1) hc.2.2.1 (fun h => ?_)
        rcases hasT_ins.1 h with h | h
        · exact hc.2.2.2.2.2 h
        · exact hc.2.2.2.2.1 h
      rw [trefoillaw18_LaneOrder.j1]
      rw [cc'.2]
      rw [if_neg (by decide), same_self hok.left (by omega : 1000 < k)]
      simp only [Option.bind_some, if_true]
      rw [lnext_yes (by omega : 1000 < k) hok]
      simp
    · have cc' : ¬ (G = 0 ∧ H = 0) := fun h => by
        have hc := g3.1 h
        exact cc (h3.2 ⟨hc.1, hc.2.2.1, hc.2.1, hc.2.2.2.2.1, hc.2.2.2.1, fun e => hc.2.2.2.2.2 e.symm⟩)
      have hj : trefoillaw18_LaneOrder.j1 (k + 1) E F G H true M S M' S' = some true := by
        rw [trefoillaw18_LaneOrder.j1]
        rw [if_pos rfl]
        by_cases c3 : E = 0
        · have c4 : F ≠ 0 := fun h => cc ⟨c3, h⟩
          rw [if_pos c3]
          by_cases c5 : G = 0
          · have c6 : H ≠ 0 := fun h => cc' ⟨c5, h⟩
            rw [if_pos c5, show (F != 0) = true by simp [c4], show (H != 0) = true by simp [c6]]; rfl
          · rw [if_neg c5]; simp [c4]
        · rw [if_neg c3]
          by_cases c5 : G = 0
          · have c6 : H ≠ 0 := fun h => cc' ⟨c5, h⟩
            rw [if_pos c5]; simp [c6]
          · rw [if_neg c5]; rfl
      by_cases c3 : E = 0
      · have c4 : F ≠ 0 := fun h => cc ⟨c3, h⟩
        rw [if_pos c3, if_neg c4]; exact hj
      · rw [if_neg c3]; exact hj
  · rw [few_no (by omega) cf]
    simp only [Option.bind_some, Bool.false_eq_true, if_false]
    exact hend
end Go.Proofs.Yteodhffgnkdcfaa.Q
