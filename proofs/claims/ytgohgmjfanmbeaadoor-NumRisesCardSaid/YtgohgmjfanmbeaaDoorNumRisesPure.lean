/- Plain facts: the statement NumRises, as numbers and lists, is true. No memory and no Go in it. -/
import Derived.Test.YtgohgmjfanmbeaaDoorQx10
import Derived.Test.YtgohgmjfanmbeaaDoorAwakePure
namespace Go.Proofs.YtgohgmjfanmbeaaDoor.Q
open Go.RowKit Go.Proofs.YtgohgmjfanmbeaaDoorW.PrintWords Go.Proofs.YtgohgmjfanmbeaaDoorW.PrintLast Go.Proofs.YtgohgmjfanmbeaaDoorW.PrintMore

theorem numRises (a c b d : Int) : trefoillaw01_NumRises.f 100 a c b d = some true := by
  unfold trefoillaw01_NumRises.f
  rw [awake_eq 100 (by omega)]
  simp only [Option.bind_some, if_true]
  rw [up_eq, up_eq, down_eq, down_eq]
  simp only [Option.bind_some]
  have hud : (upV a b).2 = (downV a b).2 := by
    unfold upV downV
    by_cases hf : firstV [a, b] = 0
    · rw [if_pos hf, if_pos hf]
      by_cases hb : b = 0
      · rw [if_pos hb, if_pos hb]
      · rw [if_neg hb, if_neg hb]
    · rw [if_neg hf, if_neg hf]
  have U : ∀ x y : Int, (upV x y).2 = 0 → 0 ≤ x ∧ x ≤ 1099511627775 ∧ 0 < y ∧ y ≤ 1099511627775 ∧ (upV x y).1 = (x + (y - 1)) / y := by
    intro x y h
    unfold upV at h ⊢
    by_cases hf : firstV [x, y] = 0
    · rw [if_pos hf] at h ⊢
      obtain ⟨h1, h2, h3, h4⟩ := two_ok hf
      by_cases hy : y = 0
      · rw [if_pos hy] at h; cases h
      · rw [if_neg hy]; exact ⟨h1, h2, by omega, h4, rfl⟩
    · rw [if_neg hf] at h; exact absurd h hf
  have D : ∀ x y : Int, (downV x y).2 = 0 → 0 ≤ x ∧ x ≤ 1099511627775 ∧ 0 < y ∧ y ≤ 1099511627775 ∧ (downV x y).1 = x / y := by
    intro x y h
    unfold downV at h ⊢
    by_cases hf : firstV [x, y] = 0
    · rw [if_pos hf] at h ⊢
      obtain ⟨h1, h2, h3, h4⟩ := two_ok hf
      by_cases hy : y = 0
      · rw [if_pos hy] at h; cases h
      · rw [if_neg hy]; exact ⟨h1, h2, by omega, h4, rfl⟩
    · rw [if_neg hf] at h; exact absurd h hf
  have A1 : (upV a b).2 = 0 → (upV c b).2 = 0 → a ≤ c → ¬ (upV a b).1 > (upV c b).1 := by
    intro h1 h2 h3
    obtain ⟨_, _, hy, _, e1⟩ := U a b h1
    obtain ⟨_, _, _, _, e2⟩ := U c b h2
    rw [e1, e2]
    have := Int.ediv_le_ediv hy (show a + (b - 1) ≤ c + (b - 1) by omega)
    omega
  have A2 : (downV a b).2 = 0 → (downV a d).2 = 0 → b ≤ d → ¬ (downV a b).1 < (downV a d).1 := by
    intro h1 h2 h3
    obtain ⟨hx, _, hy, _, e1⟩ := D a b h1
    obtain ⟨_, _, hz, _, e2⟩ := D a d h2
    rw [e1, e2]
    have h4 : a / d ≤ a / b := by
      rw [Int.le_ediv_iff_mul_le hy]
      have h5 : a / d * d ≤ a := Int.ediv_mul_le a (by omega)
      have h6 : a / d * b ≤ a / d * d := Int.mul_le_mul_of_nonneg_left h3 (Int.ediv_nonneg hx (by omega))
      omega
    omega
  have A3 : (upV a b).2 = 0 → (downV a b).1 ≤ (upV a b).1 ∧ (upV a b).1 ≤ wrap64 ((downV a b).1 + 1) := by
    intro h1
    obtain ⟨hx, hx2, hy, hy2, e1⟩ := U a b h1
    obtain ⟨_, _, _, _, e2⟩ := D a b (hud ▸ h1)
    rw [e1, e2]
    have h0 : 0 ≤ a / b := Int.ediv_nonneg hx (by omega)
    have h2 : a / b ≤ a := Int.ediv_le_self _ hx
    rw [w64 (by omega) (by omega)]
    have h3 := Int.ediv_le_ediv hy (show a ≤ a + (b - 1) by omega)
    have h4 := Int.ediv_le_ediv hy (show a + (b - 1) ≤ a + 1 * b by omega)
    rw [Int.add_mul_ediv_right _ _ (by omega)] at h4
    exact ⟨h3, h4⟩
  generalize upV a b = p at *
  generalize upV c b = q at *
  generalize downV a b = x at *
  generalize downV a d = y at *
  clear U D
  by_cases c1 : p.2 = 0
  · obtain ⟨t1, t2⟩ := A3 c1
    have cx : x.2 = 0 := by rw [← hud]; exact c1
    have t3 : decide (p.1 ≤ wrap64 (x.1 + 1)) = true := decide_eq_true t2
    simp only [if_pos c1, if_pos cx, if_pos hud, if_pos t1, t3]
    by_cases c2 : q.2 = 0
    · simp only [if_pos c2]
      by_cases c3 : a ≤ c
      · simp only [if_pos c3, if_neg (A1 c1 c2 c3)]
        by_cases c4 : y.2 = 0
        · simp only [if_pos c4]
          by_cases c5 : b ≤ d
          · simp only [if_pos c5, if_neg (A2 cx c4 c5)]
          · simp only [if_neg c5]
        · simp only [if_neg c4]
      · simp only [if_neg c3]
        by_cases c4 : y.2 = 0
        · simp only [if_pos c4]
          by_cases c5 : b ≤ d
          · simp only [if_pos c5, if_neg (A2 cx c4 c5)]
          · simp only [if_neg c5]
        · simp only [if_neg c4]
    · simp only [if_neg c2]
      by_cases c4 : y.2 = 0
      · simp only [if_pos c4]
        by_cases c5 : b ≤ d
        · simp only [if_pos c5, if_neg (A2 cx c4 c5)]
        · simp only [if_neg c5]
      · simp only [if_neg c4]
  · have cx : ¬ x.2 = 0 := by rw [← hud]; exact c1
    simp only [if_neg c1, if_neg cx, if_pos hud]
end Go.Proofs.YtgohgmjfanmbeaaDoor.Q
