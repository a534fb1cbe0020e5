/- Plain facts: the statement EdfAlways, as numbers and lists, is true. No memory and no Go in it. -/
import Derived.Test.YtjbmogipdoiebaaDoorQx12
import Derived.Test.YtjbmogipdoiebaaDoorEdfAwakePure
namespace Go.Proofs.YtjbmogipdoiebaaDoor.Q
open Go.RowKit Go.Proofs.YtjbmogipdoiebaaDoorW.PrintWords Go.Proofs.YtjbmogipdoiebaaDoorW.PrintLast Go.Proofs.YtjbmogipdoiebaaDoorW.PrintMore
theorem always_true (k : Nat) (hk : 30 ≤ k) (l : List S34) (t : Int) : trefoillaw15_EdfAlways.j0 (k + 1) l t true = some true := by
  simp only [trefoillaw15_EdfAlways.j0]
  rw [if_pos True.intro, awake_eq _ hk]
  rfl
theorem edfAlways (K : Nat) (hK : 50000 < K) (l : List S34) (t : Int) : trefoillaw15_EdfAlways.f K l t = some true := by
  obtain ⟨k, rfl⟩ : ∃ k, K = k + 1 := ⟨K - 1, by omega⟩
  unfold trefoillaw15_EdfAlways.f
  rw [awake_eq _ (by omega)]
  simp only [Option.bind_some, if_true]
  by_cases hl : (l.length : Int) > 20
  · rw [if_pos hl]
    exact always_true k (by omega) l t
  · rw [if_neg hl, own_eq l (by omega)]
    simp only [Option.bind_some]
    rw [fits_eq l _ (by omega)]
    simp only [Option.bind_some]
    by_cases hf : okL l ∧ AllFit l
    · rw [dec_yes hf, if_pos rfl]
      by_cases h1 : t < 1
      · rw [if_pos h1]
        exact always_true k (by omega) l t
      · rw [if_neg h1]
        by_cases h2 : t > 1099511627775
        · rw [decide_eq_true h2]
          exact always_true k (by omega) l t
        · rw [decide_eq_false h2]
          simp only [trefoillaw15_EdfAlways.j0]
          rw [if_neg (by decide), own_eq l (by omega)]
          simp only [Option.bind_some]
          rw [(demandV_eq l t).2.2 hf.1 (by omega) (by omega), (blockV_eq l t).2.2 hf.1 (by omega) (by omega)]
          simp only [Option.bind_some, if_true]
          have d0 := D_bd (l := l) (fun s hs => (hf.1.2 s hs).1) t (by omega) (by omega)
          have bb := B_bd hf.1 t
          have b0 := B_nonneg l t
          have hlen := hf.1.1
          by_cases hz : D l t = 0
          · rw [if_pos hz]
          · have := hf.2 t (by omega) (by omega)
            rw [if_neg hz, w64 (by omega) (by omega), decide_eq_true this]
    · rw [dec_no hf, if_neg (by decide)]
      exact always_true k (by omega) l t
end Go.Proofs.YtjbmogipdoiebaaDoor.Q
