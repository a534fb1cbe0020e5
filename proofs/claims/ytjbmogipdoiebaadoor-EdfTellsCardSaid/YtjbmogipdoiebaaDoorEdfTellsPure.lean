/- Plain facts: the statement EdfTells, as numbers and lists, is true. No memory and no Go in it. -/
import Derived.Test.YtjbmogipdoiebaaDoorQx9
import Derived.Test.YtjbmogipdoiebaaDoorEdfAwakePure
namespace Go.Proofs.YtjbmogipdoiebaaDoor.Q
open Go.RowKit Go.Proofs.YtjbmogipdoiebaaDoorW.PrintWords Go.Proofs.YtjbmogipdoiebaaDoorW.PrintLast Go.Proofs.YtjbmogipdoiebaaDoorW.PrintMore
theorem tells_j1 (k : Nat) (hk : 200 < k) (l : List S34) (hl : l.length ≤ 20) (t n b w : Int) (hb : w = 0 → okL l ∧ 0 ≤ t ∧ t ≤ 1099511627775 ∧ n = D l t ∧ b = B l t) (hw : w ≠ 0 → n = 0 ∧ b = 0) :
    trefoillaw15_EdfTells.j1 (k + 2) l t n w b w w = some true := by
  simp only [trefoillaw15_EdfTells.j1]
  rw [if_pos True.intro, if_pos True.intro, own_eq l hl]
  simp only [Option.bind_some]
  obtain ⟨c, hc, h2, hi⟩ := edfCheck_eq l
  rw [hc, refCheckL_eq l hl _ (by omega)]
  simp only [Option.bind_some]
  have e1 : ((c == 0) != dec (okL l)) = false := by
    by_cases h : okL l
    · rw [dec_yes h, hi.2 h]; rfl
    · have : ¬ c = 0 := fun e => h (hi.1 e)
      rw [dec_no h]; simp [this]
  rw [e1, if_neg (by decide)]
  have e2 : ∃ x, edf_Horizon.f l = some x ∧ trefoilref15_Horizon.f (k + 1) l = some x := by
    by_cases h : okL l
    · exact ⟨_, (horizon_eq l).1 h, (refHor_eq l hl _ (by omega)).1 h⟩
    · exact ⟨_, (horizon_eq l).2 h, (refHor_eq l hl _ (by omega)).2 h⟩
  obtain ⟨x, hx, hy⟩ := e2
  rw [hx]
  simp only [Option.bind_some]
  rw [hy]
  simp only [Option.bind_some, bne_self_eq_false]
  simp only [trefoillaw15_EdfTells.j2]
  rw [if_neg (by decide)]
  by_cases h0 : w = 0
  · obtain ⟨h, t0, t1, en, eb⟩ := hb h0
    rw [if_pos h0, refDem_eq h t t0 (by omega) k (by omega)]
    simp only [Option.bind_some]
    rw [if_pos en, refBlk_eq h t k (by omega)]
    simp [eb]
  · obtain ⟨en, eb⟩ := hw h0
    rw [if_neg h0, if_pos en, if_pos eb]
theorem edfTells (K : Nat) (hK : 1000 < K) (l : List S34) (t : Int) : trefoillaw15_EdfTells.f K l t = some true := by
  obtain ⟨k, rfl⟩ : ∃ k, K = k + 3 := ⟨K - 3, by omega⟩
  unfold trefoillaw15_EdfTells.f
  rw [awake_eq _ (by omega)]
  simp only [Option.bind_some, if_true]
  by_cases hl : (l.length : Int) > 20
  · rw [decide_eq_true hl]
    simp only [trefoillaw15_EdfTells.j0]
    rw [if_pos True.intro, awake_eq _ (by omega)]
    rfl
  · rw [decide_eq_false hl]
    simp only [trefoillaw15_EdfTells.j0]
    rw [if_neg (by decide), own_eq l (by omega)]
    simp only [Option.bind_some]
    by_cases h : okL l
    · by_cases ht : 0 ≤ t ∧ t ≤ 1099511627775
      · rw [(demandV_eq l t).2.2 h ht.1 ht.2, (blockV_eq l t).2.2 h ht.1 ht.2, refCheckL_eq l (by omega) _ (by omega)]
        simp only [Option.bind_some]
        rw [if_pos (dec_yes h), if_neg (by omega), if_neg (by omega)]
        exact tells_j1 k (by omega) l (by omega) t _ _ 0 (fun _ => ⟨h, ht.1, ht.2, rfl, rfl⟩) (fun e => absurd rfl e)
      · rw [(demandV_eq l t).2.1 h ht, (blockV_eq l t).2.1 h ht, refCheckL_eq l (by omega) _ (by omega)]
        simp only [Option.bind_some]
        rw [if_pos (dec_yes h)]
        by_cases h1 : t < 0
        · rw [if_pos h1]
          exact tells_j1 k (by omega) l (by omega) t _ _ 151 (fun e => absurd e (by decide)) (fun _ => ⟨rfl, rfl⟩)
        · rw [if_neg h1, if_pos (by omega)]
          exact tells_j1 k (by omega) l (by omega) t _ _ 151 (fun e => absurd e (by decide)) (fun _ => ⟨rfl, rfl⟩)
    · rw [(demandV_eq l t).1 h, (blockV_eq l t).1 h, refCheckL_eq l (by omega) _ (by omega)]
      simp only [Option.bind_some]
      rw [if_neg (by rw [dec_no h]; decide)]
      exact tells_j1 k (by omega) l (by omega) t _ _ 150 (fun e => absurd e (by decide)) (fun _ => ⟨rfl, rfl⟩)
end Go.Proofs.YtjbmogipdoiebaaDoor.Q
