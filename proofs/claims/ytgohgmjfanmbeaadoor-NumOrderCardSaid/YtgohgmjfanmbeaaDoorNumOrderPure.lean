/- Plain facts: the statement NumOrder, as numbers and lists, is true. No memory and no Go in it. -/
import Derived.Test.YtgohgmjfanmbeaaDoorQx7
import Derived.Test.YtgohgmjfanmbeaaDoorAwakePure
import Derived.Test.YtgohgmjfanmbeaaDoorNumRefPure
namespace Go.Proofs.YtgohgmjfanmbeaaDoor.Q
open Go.RowKit Go.Proofs.YtgohgmjfanmbeaaDoorW.PrintWords Go.Proofs.YtgohgmjfanmbeaaDoorW.PrintLast Go.Proofs.YtgohgmjfanmbeaaDoorW.PrintMore

theorem addV_comm (a b : Int) (h : firstV [a, b] = 0) : addV [a, b] = addV [b, a] := by
  obtain ⟨h1, h2, h3, h4⟩ := two_ok h
  have h' : firstV [b, a] = 0 := firstV_ok.2 (by intro x hx; simp at hx; rcases hx with rfl | rfl <;> omega)
  unfold addV
  rw [if_pos h, if_pos h', show [a, b].sum = [b, a].sum from by simp; omega]
theorem mulV_comm (a b : Int) (h : firstV [a, b] = 0) : mulV a b = mulV b a := by
  obtain ⟨h1, h2, h3, h4⟩ := two_ok h
  have h' : firstV [b, a] = 0 := firstV_ok.2 (by intro x hx; simp at hx; rcases hx with rfl | rfl <;> omega)
  unfold mulV
  rw [if_pos h, if_pos h', Int.mul_comm]
theorem order_j0 (k : Nat) (hk : 3 < k) (a b c : Int) (hs : (addV [a, b]).2 = 0 → firstV [a, b] = 0) : trefoillaw01_NumOrder.j0 (k + 1) a b c (addV [a, b]).1 (addV [a, b]).2 false = some true := by
  simp only [trefoillaw01_NumOrder.j0]
  rw [if_neg (by decide), mul_eq, mul_eq, mul_eq]
  simp only [Option.bind_some]
  rw [add_eq _ (by simp) k (by simp; omega)]
  simp only [Option.bind_some]
  by_cases he : (addV [a, b]).2 = 0
  · rw [if_pos he]
    have h := hs he
    obtain ⟨h1, h2, h3, h4⟩ := two_ok h
    have hsum : (addV [a, b]).1 = a + b ∧ a + b ≤ 1099511627775 := by
      unfold addV at he ⊢
      rw [if_pos h] at he ⊢
      have e : [a, b].sum = a + b := by simp
      rw [e] at he ⊢
      by_cases hle : a + b ≤ 1099511627775
      · rw [if_pos hle]; exact ⟨rfl, hle⟩
      · rw [if_neg hle] at he; cases he
    rw [hsum.1]
    by_cases hi : (mulV (a + b) c).2 = 0
    · rw [if_pos hi]
      have hf : firstV [a + b, c] = 0 ∧ (a + b) * c ≤ 1099511627775 := by
        unfold mulV at hi
        by_cases hf : firstV [a + b, c] = 0
        · rw [if_pos hf] at hi
          by_cases hp : (a + b) * c ≤ 1099511627775
          · exact ⟨hf, hp⟩
          · rw [if_neg hp] at hi; cases hi
        · rw [if_neg hf] at hi; exact absurd hi hf
      obtain ⟨_, _, h5, h6⟩ := two_ok hf.1
      have ha := Int.mul_nonneg h1 h5
      have hb := Int.mul_nonneg h3 h5
      have hab := Int.add_mul a b c
      have f1 : firstV [a, c] = 0 := firstV_ok.2 (by intro x hx; simp at hx; rcases hx with rfl | rfl <;> omega)
      have f2 : firstV [b, c] = 0 := firstV_ok.2 (by intro x hx; simp at hx; rcases hx with rfl | rfl <;> omega)
      have hp := hf.2
      have e1 : mulV (a + b) c = ((a + b) * c, 0) := by unfold mulV; rw [if_pos hf.1, if_pos hp]
      rw [hab] at hp
      have e2 : mulV a c = (a * c, 0) := by unfold mulV; rw [if_pos f1, if_pos (by omega)]
      have e3 : mulV b c = (b * c, 0) := by unfold mulV; rw [if_pos f2, if_pos (by omega)]
      rw [e1, e2, e3]
      have f3 : firstV [a * c, b * c] = 0 := firstV_ok.2 (by intro x hx; simp at hx; rcases hx with rfl | rfl <;> omega)
      have e4 : addV [a * c, b * c] = (a * c + b * c, 0) := by
        unfold addV
        rw [if_pos f3, show [a * c, b * c].sum = a * c + b * c from by simp, if_pos hp]
      rw [e4, hab]
      simp
    · rw [if_neg hi]
  · rw [if_neg he]
theorem numOrder (a b c : Int) : trefoillaw01_NumOrder.f 100 a b c = some true := by
  unfold trefoillaw01_NumOrder.f
  rw [awake_eq 100 (by omega)]
  simp only [Option.bind_some, if_true]
  rw [add_eq _ (by simp) 100 (by simp), add_eq _ (by simp) 100 (by simp), mul_eq, mul_eq, refAll_eq [a, b] (by simp) 100 (by simp)]
  simp only [Option.bind_some]
  by_cases h : firstV [a, b] = 0
  · rw [if_pos h, ← addV_comm a b h, ← mulV_comm a b h, if_pos rfl, if_pos rfl, if_pos rfl]
    simp only [bne_self_eq_false]
    exact order_j0 99 (by omega) a b c (fun _ => h)
  · rw [if_neg h]
    exact order_j0 99 (by omega) a b c addV_ok
end Go.Proofs.YtgohgmjfanmbeaaDoor.Q
