/- Plain facts: tick by tick one less is left, till nothing is left. No memory and no Go in it. -/
import Derived.Test.YteodhffgnkdcfaaQx25
import Derived.Test.YteodhffgnkdcfaaLaneTickPure
set_option linter.unusedVariables false
set_option linter.unusedSimpArgs false
namespace Go.Proofs.Yteodhffgnkdcfaa.Q
open Go.RowKit Go.Proofs.YteodhffgnkdcfaaW.PrintWords Go.Proofs.YteodhffgnkdcfaaW.PrintLast Go.Proofs.YteodhffgnkdcfaaW.PrintMore

theorem ends_loop : ∀ (n k : Nat) (l : List J3) (run : Int), okL l run → totL l = n → n ≤ 1000000 → 2 * n + 2000 < k → trefoillaw18_LaneEnds.l0 k run (n : Int) l run = some true
  | 0, 0, l, run, h, ht, hn, hk => by omega
  | 0, k + 1, l, run, h, ht, hn, hk => by
    have hb := totL_bounds h.1
    obtain rfl : l = [] := List.length_eq_zero_iff.1 (by omega)
    rw [trefoillaw18_LaneEnds.l0, if_neg (by omega), lown_eq (by simp) (fun x hx => by cases hx) (by omega)]
    simp only [Option.bind_some]
    rw [tick_none (by omega) h]
    simp
  | n + 1, 0, l, run, h, ht, hn, hk => by omega
  | n + 1, 1, l, run, h, ht, hn, hk => by omega
  | n + 1, k + 2, l, run, h, ht, hn, hk => by
    have hb := totL_bounds h.1
    have hl := h.len
    have hne : l ≠ [] := fun e => by rw [e] at ht; simp [totL] at ht; omega
    obtain ⟨y, r', s, nd, al, hT, hy, hty, hs0, hsr, hr, hal, haln, hyl⟩ := tick_step (k := k + 1) (by omega) h hne
    have hyl2 := hy.len
    have hw : wrap64 (((n + 1 : Nat) : Int) - 1) = (n : Int) := by rw [lw64 (by omega) (by omega)]; omega
    have hw2 : wrap64 ((l.length : Int) - 1) = (l.length : Int) - 1 := lw64 (by omega) (by omega)
    have hm := much_eq hy (show 1000 < k + 1 by omega)
    have hrec := ends_loop n k y r' hy (by omega) (by omega) (by omega)
    have hj2 : trefoillaw18_LaneEnds.j2 (k + 1) ((n + 1 : Nat) : Int) false l run y r' s nd al = some true := by
      have hlen : (al != ((y.length : Int) == (l.length : Int) - 1)) = false := by
        by_cases ca : al = true
        · have := hal.1 ca
          rw [ca]
          have e : ((y.length : Int) == (l.length : Int) - 1) = true := by simp; omega
          rw [e]; rfl
        · have : ¬ (y.length + 1 = l.length) := fun h2 => ca (hal.2 h2)
          have e : ((y.length : Int) == (l.length : Int) - 1) = false := by simp; omega
          rw [e, Bool.eq_false_iff.2 ca]; rfl
      rw [trefoillaw18_LaneEnds.j2, if_neg (by decide), hw, hw2, hlen]
      by_cases cn : nd = true
      · rw [if_pos cn] at hr ⊢
        rw [if_pos hr, if_neg (by decide), ← hr, ite_self]
        exact hrec
      · rw [if_neg cn] at hr ⊢
        have ca : ¬ al = true := fun h2 => cn (haln h2)
        rw [if_pos hr, if_neg (by decide), if_neg ca, ← hr]
        exact hrec
    rw [trefoillaw18_LaneEnds.l0, if_pos (by omega), lown_eq (by omega) h.left (by omega)]
    simp only [Option.bind_some]
    rw [hT]
    simp only [Option.bind_some, if_true]
    rw [if_neg (by omega), hm]
    simp only [Option.bind_some]
    rw [hw, if_pos (by omega), lown_eq (by omega) hy.left (by omega)]
    simp only [Option.bind_some]
    rw [check_yes (by omega) (by omega) hy]
    simp only [Option.bind_some]
    by_cases cr : run ≥ 0
    · rw [if_pos cr, if_pos (hsr cr)]
      exact hj2
    · rw [if_neg cr]
      exact hj2
theorem laneEnds (K : Nat) (hK : 10000 < K) (l : List J3) (a : Int) : trefoillaw18_LaneEnds.f K l a = some true := by
  obtain ⟨k, rfl⟩ : ∃ k, K = k + 1 := ⟨K - 1, by omega⟩
  have hend : trefoillaw18_LaneEnds.j0 (k + 1) true l a = some true := by
    rw [trefoillaw18_LaneEnds.j0, if_pos rfl, lawake_eq k (by omega)]
    rfl
  unfold trefoillaw18_LaneEnds.f
  rw [lawake_eq (k + 1) (by omega)]
  simp only [Option.bind_some, if_true]
  by_cases cf : fewL l
  · have hl : l.length ≤ 12 := cf.1
    rw [few_yes (by omega) cf]
    simp only [Option.bind_some, if_true]
    rw [lown_eq (by omega) (fun x hx => by have := cf.2 x hx; omega) (by omega)]
    simp only [Option.bind_some]
    by_cases co : okL l a
    · rw [check_yes (by omega) (by omega) co]
      simp only [Option.bind_some, if_true]
      rw [much_eq co (by omega)]
      simp only [Option.bind_some]
      by_cases ct : totL l > 2000
      · rw [decide_eq_true ct]; exact hend
      · rw [decide_eq_false ct, trefoillaw18_LaneEnds.j0, if_neg (by decide), lown_eq (by omega) co.left (by omega)]
        simp only [Option.bind_some]
        rw [much_eq co (by omega)]
        simp only [Option.bind_some]
        have hb := totL_bounds co.1
        obtain ⟨n, hn⟩ : ∃ n : Nat, totL l = n := ⟨(totL l).toNat, by omega⟩
        rw [hn]
        exact ends_loop n k l a co hn (by omega) (by omega)
    · rw [check_no (by omega) (by omega) co]
      simp only [Option.bind_some]
      rw [if_neg (by decide)]
      exact hend
  · rw [few_no (by omega) cf]
    simp only [Option.bind_some, Bool.false_eq_true, if_false]
    exact hend
end Go.Proofs.Yteodhffgnkdcfaa.Q
