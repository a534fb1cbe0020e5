/- Plain facts: the statement EdfPeriods, as numbers and lists, is true. No memory and no Go in it. -/
import Derived.Test.YtjbmogipdoiebaaDoorQx15
import Derived.Test.YtjbmogipdoiebaaDoorEdfAwakePure
namespace Go.Proofs.YtjbmogipdoiebaaDoor.Q
open Go.RowKit Go.Proofs.YtjbmogipdoiebaaDoorW.PrintWords Go.Proofs.YtjbmogipdoiebaaDoorW.PrintLast Go.Proofs.YtjbmogipdoiebaaDoorW.PrintMore
theorem periods_true (k : Nat) (hk : 30 ≤ k) (l : List S34) (t : Int) : trefoillaw15_EdfPeriods.j0 (k + 1) l t true = some true := by
  simp only [trefoillaw15_EdfPeriods.j0]
  rw [if_pos True.intro, awake_eq _ hk]
  rfl
theorem edfPeriods (K : Nat) (hK : 1000 < K) (l : List S34) (t : Int) : trefoillaw15_EdfPeriods.f K l t = some true := by
  obtain ⟨k, rfl⟩ : ∃ k, K = k + 1 := ⟨K - 1, by omega⟩
  unfold trefoillaw15_EdfPeriods.f
  rw [awake_eq _ (by omega)]
  simp only [Option.bind_some, if_true]
  by_cases hl : (l.length : Int) > 20
  · rw [if_pos hl]
    exact periods_true k (by omega) l t
  · rw [if_neg hl, own_eq l (by omega)]
    simp only [Option.bind_some]
    obtain ⟨c, hc, h2, hi⟩ := edfCheck_eq l
    rw [hc]
    simp only [Option.bind_some]
    by_cases h0 : c = 0
    · have h := hi.1 h0
      have hH := H_bd h
      have hlen := h.1
      rw [if_pos h0]
      by_cases h1 : t < 0
      · rw [if_pos h1]
        exact periods_true k (by omega) l t
      · rw [if_neg h1]
        by_cases h3 : t > 1099511623679
        · rw [decide_eq_true h3]
          exact periods_true k (by omega) l t
        · rw [decide_eq_false h3]
          simp only [trefoillaw15_EdfPeriods.j0]
          rw [if_neg (by decide), own_eq l (by omega)]
          simp only [Option.bind_some]
          rw [(horizon_eq l).1 h]
          simp only [Option.bind_some]
          rw [w64 (by omega) (by omega)]
          rw [(demandV_eq l t).2.2 h (by omega) (by omega), (demandV_eq l (t + Hz l)).2.2 h (by omega) (by omega), (demandV_eq l (Hz l)).2.2 h (by omega) (by omega), (blockV_eq l t).2.2 h (by omega) (by omega), (blockV_eq l (t + Hz l)).2.2 h (by omega) (by omega)]
          simp only [Option.bind_some, if_true]
          have d0 := D_bd (l := l) (fun s hs => (h.2 s hs).1) t (by omega) (by omega)
          have d1 := D_bd (l := l) (fun s hs => (h.2 s hs).1) (Hz l) (by omega) (by omega)
          have e := D_period h t (by omega)
          have b1 := B_anti l (show t ≤ t + Hz l by omega)
          have b2 := B_late h (show Hz l ≤ t + Hz l by omega)
          rw [w64 (by omega) (by omega), if_pos e, if_pos b1]
          by_cases hz : (l.length : Int) = 0
          · rw [if_pos hz]
          · rw [if_neg hz, b2]; rfl
    · rw [if_neg h0]
      exact periods_true k (by omega) l t
end Go.Proofs.YtjbmogipdoiebaaDoor.Q
