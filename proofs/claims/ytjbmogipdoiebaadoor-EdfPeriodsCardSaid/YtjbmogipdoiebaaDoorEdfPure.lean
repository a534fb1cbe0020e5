/- Plain facts: what the functions of layer 15, and of its reference, come to, as numbers and lists. No memory and no Go in it. -/
import Derived.Test.YtjbmogipdoiebaaDoorQx6
import Derived.Test.YtjbmogipdoiebaaDoorQx2
import Derived.Test.YtjbmogipdoiebaaDoorNumUpPure
set_option linter.unusedVariables false
namespace Go.Proofs.YtjbmogipdoiebaaDoor.Q
open Go.RowKit Go.Proofs.YtjbmogipdoiebaaDoorW.PrintWords Go.Proofs.YtjbmogipdoiebaaDoorW.PrintLast Go.Proofs.YtjbmogipdoiebaaDoorW.PrintMore

/-- May a shape be? -/
def okS (s : S34) : Prop := (∃ k : Nat, k ≤ 12 ∧ s.f4 = 2 ^ k) ∧ 1 ≤ s.f3 ∧ s.f3 ≤ s.f4 ∧ 1 ≤ s.f0 ∧ s.f0 ≤ 4096 ∧ 1 ≤ s.f1 ∧ s.f1 ≤ s.f0 ∧ 1 ≤ s.f2 ∧ s.f2 ≤ s.f1
theorem pow12 : ∀ k : Nat, k < 40 → (2 : Int) ^ k ≤ 4096 → k ≤ 12 := by decide +kernel
theorem pow12' : ∀ k : Nat, k ≤ 12 → 1 ≤ (2 : Int) ^ k ∧ (2 : Int) ^ k ≤ 4096 := by decide +kernel
theorem okS_p {s : S34} (h : okS s) : 1 ≤ s.f4 ∧ s.f4 ≤ 4096 := by
  obtain ⟨⟨k, hk, e⟩, _⟩ := h
  rw [e]
  exact pow12' k hk
theorem twoV_yes {a : Int} (h : (twoV a).2 = true) : ∃ k : Nat, k < 40 ∧ a = 2 ^ k := by
  unfold twoV at h
  split at h
  · rename_i k hk
    have h1 := List.find?_some hk
    have h2 := List.mem_of_find?_eq_some hk
    exact ⟨k, by simpa using h2, by have := of_decide_eq_true h1; exact this.symm⟩
  · cases h
theorem within_eq (a b : Int) : class_Check_1.f a b = some (decide (1 ≤ a ∧ a ≤ b)) := by
  unfold class_Check_1.f
  by_cases h : a ≥ 1
  · rw [if_pos h]; simp; omega
  · rw [if_neg h]; simp; omega
theorem classCheck_eq (s : S34) : ∃ c, class_Check.f s.f0 s.f1 s.f2 s.f3 s.f4 = some c ∧ (c = 0 ↔ okS s) := by
  unfold class_Check.f
  rw [two_eq]
  simp only [Option.bind_some, within_eq]
  by_cases h1 : (twoV s.f4).2 = true
  · rw [if_pos h1]
    obtain ⟨k, hk, e⟩ := twoV_yes h1
    by_cases h2 : s.f4 > 4096
    · rw [if_pos h2]
      refine ⟨140, rfl, fun h => absurd h (by decide), fun h => ?_⟩
      cases (show (140 : Int) = 0 from by have := okS_p h; omega)
    · rw [if_neg h2]
      have hk2 : k ≤ 12 := pow12 k hk (by omega)
      by_cases h3 : 1 ≤ s.f3 ∧ s.f3 ≤ s.f4
      · rw [decide_eq_true h3, if_pos rfl]
        by_cases h4 : 1 ≤ s.f0 ∧ s.f0 ≤ 4096
        · rw [decide_eq_true h4, if_pos rfl]
          by_cases h5 : 1 ≤ s.f1 ∧ s.f1 ≤ s.f0
          · rw [decide_eq_true h5, if_pos rfl]
            by_cases h6 : 1 ≤ s.f2 ∧ s.f2 ≤ s.f1
            · rw [decide_eq_true h6, if_pos rfl]
              exact ⟨0, rfl, fun _ => ⟨⟨k, hk2, e⟩, h3.1, h3.2, h4.1, h4.2, h5.1, h5.2, h6.1, h6.2⟩, fun _ => rfl⟩
            · rw [decide_eq_false h6, if_neg (by decide)]
              exact ⟨140, rfl, fun h => absurd h (by decide), fun h => absurd ⟨h.2.2.2.2.2.2.2.1, h.2.2.2.2.2.2.2.2⟩ h6⟩
          · rw [decide_eq_false h5, if_neg (by decide)]
            exact ⟨140, rfl, fun h => absurd h (by decide), fun h => absurd ⟨h.2.2.2.2.2.1, h.2.2.2.2.2.2.1⟩ h5⟩
        · rw [decide_eq_false h4, if_neg (by decide)]
          exact ⟨140, rfl, fun h => absurd h (by decide), fun h => absurd ⟨h.2.2.2.1, h.2.2.2.2.1⟩ h4⟩
      · rw [decide_eq_false h3, if_neg (by decide)]
        exact ⟨140, rfl, fun h => absurd h (by decide), fun h => absurd ⟨h.2.1, h.2.2.1⟩ h3⟩
  · rw [if_neg h1]
    refine ⟨140, rfl, fun h => absurd h (by decide), fun h => ?_⟩
    obtain ⟨⟨k, hk, e⟩, _⟩ := h
    exfalso
    apply h1
    rw [e, twoV_pow k (by omega)]
theorem heavy_eq (s : S34) (h : okS s) : class_Heavy.f s.f0 s.f1 s.f2 s.f3 s.f4 = some (decide (s.f3 < s.f0)) := by
  unfold class_Heavy.f
  obtain ⟨c, hc, hi⟩ := classCheck_eq s
  rw [hc]
  simp only [Option.bind_some]
  rw [if_pos (hi.2 h)]
  have hp := okS_p h
  obtain ⟨_, h1, h2, h3, h4, h5, h6, h7, h8⟩ := h
  by_cases hd : s.f3 < s.f0
  · rw [if_pos hd, decide_eq_true hd]
    unfold class_heavy_need.f
    by_cases hl : s.f1 ≥ s.f3
    · rw [if_pos hl]; rfl
    · rw [if_neg hl, w64 (by omega) (by omega), w64 (by omega) (by omega)]
      rw [up_eq]
      simp only [Option.bind_some]
      have hf : firstV [s.f0 - s.f1, s.f3 - s.f1] = 0 := firstV_ok.2 (by intro x hx; simp at hx; rcases hx with rfl | rfl <;> omega)
      have e : upV (s.f0 - s.f1) (s.f3 - s.f1) = ((s.f0 - s.f1 + (s.f3 - s.f1 - 1)) / (s.f3 - s.f1), 0) := by unfold upV; rw [if_pos hf, if_neg (by omega)]
      rw [e]
      have hge : 2 ≤ (s.f0 - s.f1 + (s.f3 - s.f1 - 1)) / (s.f3 - s.f1) := by
        rw [Int.le_ediv_iff_mul_le (by omega)]
        omega
      generalize (s.f0 - s.f1 + (s.f3 - s.f1 - 1)) / (s.f3 - s.f1) = q at *
      simp only [if_true]
      by_cases h9 : q > 8
      · rw [if_pos h9]; rfl
      · rw [if_neg h9]
        have : ¬ q = 1 := by omega
        simp [this]
  · rw [if_neg hd, decide_eq_false hd]
/-- May shapes share a core? -/
def okL (l : List S34) : Prop := l.length ≤ 8 ∧ ∀ s ∈ l, okS s ∧ s.f0 ≤ s.f3
theorem odd_eq (s : S34) : oddShape s = some (oddB s) ∧ (oddB s = false ↔ okS s ∧ s.f0 ≤ s.f3) := by
  have key : ∃ b, oddShape s = some b ∧ (b = false ↔ okS s ∧ s.f0 ≤ s.f3) := by
    unfold oddShape edf_Check_1.f
    obtain ⟨c, hc, hi⟩ := classCheck_eq s
    rw [hc]
    simp only [Option.bind_some]
    by_cases h0 : c = 0
    · have hk := hi.1 h0
      rw [if_pos h0, heavy_eq s hk]
      simp only [Option.bind_some]
      refine ⟨_, rfl, ?_⟩
      simp [hk]
    · rw [if_neg h0]
      exact ⟨true, rfl, by simp; intro h; exact absurd (hi.2 h) h0⟩
  obtain ⟨b, hb, hi⟩ := key
  have : oddB s = b := by unfold oddB; rw [hb]; rfl
  rw [this]
  exact ⟨hb, hi⟩
theorem edfCheck_eq (l : List S34) : ∃ c, edf_Check.f l = some c ∧ (c = 0 ∨ c = 150) ∧ (c = 0 ↔ okL l) := by
  unfold edf_Check.f
  by_cases h8 : 8 < l.length
  · rw [if_pos h8]
    exact ⟨150, rfl, .inr rfl, fun h => absurd h (by decide), fun h => absurd h.1 (by omega)⟩
  · rw [if_neg h8, if_pos (fun s _ => (odd_eq s).1)]
    by_cases ha : l.any oddB = true
    · rw [if_pos ha]
      refine ⟨150, rfl, .inr rfl, fun h => absurd h (by decide), fun h => ?_⟩
      obtain ⟨s, hs, hb⟩ := List.any_eq_true.1 ha
      have := (odd_eq s).2.2 (h.2 s hs)
      rw [this] at hb; cases hb
    · rw [if_neg ha]
      refine ⟨0, rfl, .inl rfl, fun _ => ⟨by omega, fun s hs => ?_⟩, fun _ => rfl⟩
      apply (odd_eq s).2.1
      cases hb : oddB s
      · rfl
      · exact absurd (List.any_eq_true.2 ⟨s, hs, hb⟩) ha

/-! ### Demand, and what blocks -/
def d1 (t : Int) (s : S34) : Int := if t < s.f3 then 0 else s.f0 * ((t - s.f3) / s.f4 + 1)
def D (l : List S34) (t : Int) : Int := (l.map (d1 t)).sum
def b1 (t : Int) (s : S34) : Int := if t < s.f3 then s.f2 else 0
def B (l : List S34) (t : Int) : Int := foldV (blk1 t) l
def Hz (l : List S34) : Int := foldV hor1 l
theorem d1_bd {s : S34} (h : okS s) (t : Int) (h0 : 0 ≤ t) (h1 : t ≤ 2199023255552) : 0 ≤ d1 t s ∧ d1 t s ≤ 9007199254745088 ∧ (s.f3 ≤ t → 1 ≤ d1 t s) := by
  have hp := okS_p h
  obtain ⟨_, g1, g2, g3, g4, _⟩ := h
  unfold d1
  by_cases hd : t < s.f3
  · rw [if_pos hd]; exact ⟨by omega, by omega, fun hh => by omega⟩
  · rw [if_neg hd]
    have q0 : 0 ≤ (t - s.f3) / s.f4 := Int.ediv_nonneg (by omega) (by omega)
    have q1 : (t - s.f3) / s.f4 ≤ t - s.f3 := Int.ediv_le_self _ (by omega)
    generalize (t - s.f3) / s.f4 = q at *
    have m1 : s.f0 * (q + 1) ≤ 4096 * (q + 1) := Int.mul_le_mul_of_nonneg_right g4 (by omega)
    have m2 : 1 * (q + 1) ≤ s.f0 * (q + 1) := Int.mul_le_mul_of_nonneg_right g3 (by omega)
    exact ⟨by omega, by omega, fun _ => by omega⟩
theorem dem1_eq {s : S34} (h : okS s) (t n : Int) (h0 : 0 ≤ t) (h1 : t ≤ 2199023255552) (hn : 0 ≤ n) (hn1 : n ≤ 1152921504606846976) : dem1 t n s = n + d1 t s := by
  have hb := d1_bd h t h0 h1
  have hp := okS_p h
  obtain ⟨_, g1, g2, g3, g4, _⟩ := h
  unfold dem1
  unfold d1 at hb ⊢
  by_cases hd : t < s.f3
  · rw [if_pos hd, if_pos hd]; omega
  · rw [if_neg hd] at hb ⊢
    rw [if_neg hd, w64 (x := t - s.f3) (by omega) (by omega), Int.tdiv_eq_ediv_of_nonneg (by omega)]
    have q0 : 0 ≤ (t - s.f3) / s.f4 := Int.ediv_nonneg (by omega) (by omega)
    have q1 : (t - s.f3) / s.f4 ≤ t - s.f3 := Int.ediv_le_self _ (by omega)
    generalize (t - s.f3) / s.f4 = q at *
    rw [w64 (x := q) (by omega) (by omega), w64 (x := q + 1) (by omega) (by omega), w64 (x := s.f0 * (q + 1)) (by omega) (by omega), w64 (by omega) (by omega)]
theorem D_nil (t : Int) : D [] t = 0 := rfl
theorem D_cons (s : S34) (l : List S34) (t : Int) : D (s :: l) t = d1 t s + D l t := by unfold D; rw [List.map_cons, List.sum_cons]
theorem D_bd {l : List S34} (h : ∀ s ∈ l, okS s) (t : Int) (h0 : 0 ≤ t) (h1 : t ≤ 2199023255552) : 0 ≤ D l t ∧ D l t ≤ 9007199254745088 * l.length := by
  induction l with
  | nil => exact ⟨by rw [D_nil]; omega, by rw [D_nil]; simp⟩
  | cons s l ih =>
    have a := d1_bd (h s (by simp)) t h0 h1
    have b := ih (fun x hx => h x (by simp [hx]))
    rw [D_cons, List.length_cons]
    exact ⟨by omega, by omega⟩
theorem foldl_dem {l : List S34} (h : ∀ s ∈ l, okS s) (hl : l.length ≤ 64) (t : Int) (h0 : 0 ≤ t) (h1 : t ≤ 2199023255552) : ∀ n : Int, 0 ≤ n → n + 9007199254745088 * l.length ≤ 1152921504606846976 → l.foldl (dem1 t) n = n + D l t := by
  induction l with
  | nil => intro n _ _; rw [D_nil]; simp
  | cons s l ih =>
    intro n hn hb
    rw [List.length_cons] at hb hl
    have hs := h s (by simp)
    have a := d1_bd hs t h0 h1
    rw [List.foldl_cons, dem1_eq hs t n h0 h1 hn (by omega), ih (fun x hx => h x (by simp [hx])) (by omega) _ (by omega) (by omega), D_cons]
    omega
theorem demand_eq {l : List S34} (h : okL l) (t : Int) (h0 : 0 ≤ t) (h1 : t ≤ 2199023255552) : edf_demand.f l t = some (D l t) := by
  unfold edf_demand.f
  have hk : ∀ s ∈ l, okS s := fun s hs => (h.2 s hs).1
  have := h.1
  rw [if_pos (fun s hs => by have := okS_p (hk s hs); omega)]
  unfold foldV
  rw [foldl_dem hk (by omega) t h0 h1 0 (by omega) (by omega), Int.zero_add]
theorem mx_eq (a b : Int) : mx a b = max a b := by unfold mx; rw [Int.max_def]; split <;> split <;> omega
theorem foldl_le_blk (t : Int) : ∀ (l : List S34) (n m : Int), n ≤ m → l.foldl (blk1 t) n ≤ l.foldl (blk1 t) m
  | [], n, m, h => h
  | s :: l, n, m, h => by
    rw [List.foldl_cons, List.foldl_cons]
    apply foldl_le_blk t l
    unfold blk1 mx
    split <;> (try split) <;> (try split) <;> omega
/-- B is the least number that no blocking node is above. -/
theorem B_le_iff (t : Int) (l : List S34) : ∀ (n x : Int), l.foldl (blk1 t) n ≤ x ↔ n ≤ x ∧ ∀ s ∈ l, t < s.f3 → s.f2 ≤ x := by
  induction l with
  | nil => intro n x; simp
  | cons s l ih =>
    intro n x
    rw [List.foldl_cons, ih]
    unfold blk1 mx
    simp only [List.mem_cons, forall_eq_or_imp]
    constructor
    · rintro ⟨a, b⟩
      by_cases h : t < s.f3
      · rw [if_pos h] at a
        by_cases g : n < s.f2
        · rw [if_pos g] at a; exact ⟨by omega, fun _ => a, b⟩
        · rw [if_neg g] at a; exact ⟨a, fun _ => by omega, b⟩
      · rw [if_neg h] at a; exact ⟨a, fun hh => absurd hh h, b⟩
    · rintro ⟨a, c, b⟩
      refine ⟨?_, b⟩
      by_cases h : t < s.f3
      · rw [if_pos h]
        have := c h
        split <;> omega
      · rw [if_neg h]; exact a
theorem B_le {t : Int} {l : List S34} {x : Int} : B l t ≤ x ↔ 0 ≤ x ∧ ∀ s ∈ l, t < s.f3 → s.f2 ≤ x := B_le_iff t l 0 x
theorem B_nonneg (l : List S34) (t : Int) : 0 ≤ B l t := (B_le.1 (Int.le_refl _)).1
theorem H_le_iff (l : List S34) : ∀ (n x : Int), l.foldl hor1 n ≤ x ↔ n ≤ x ∧ ∀ s ∈ l, s.f4 ≤ x := by
  induction l with
  | nil => intro n x; simp
  | cons s l ih =>
    intro n x
    rw [List.foldl_cons, ih]
    unfold hor1 mx
    simp only [List.mem_cons, forall_eq_or_imp]
    constructor
    · rintro ⟨a, b⟩
      by_cases g : n < s.f4
      · rw [if_pos g] at a; exact ⟨by omega, a, b⟩
      · rw [if_neg g] at a; exact ⟨a, by omega, b⟩
    · rintro ⟨a, c, b⟩
      refine ⟨?_, b⟩
      split <;> omega
theorem H_le {l : List S34} {x : Int} : Hz l ≤ x ↔ 0 ≤ x ∧ ∀ s ∈ l, s.f4 ≤ x := H_le_iff l 0 x
theorem H_mem (l : List S34) : ∀ n, l.foldl hor1 n = n ∨ ∃ s ∈ l, l.foldl hor1 n = s.f4 := by
  induction l with
  | nil => intro n; exact .inl rfl
  | cons s l ih =>
    intro n
    rw [List.foldl_cons]
    rcases ih (hor1 n s) with h | ⟨x, hx, h⟩
    · rw [h]
      unfold hor1 mx
      by_cases g : n < s.f4
      · rw [if_pos g]; exact .inr ⟨s, by simp, rfl⟩
      · rw [if_neg g]; exact .inl rfl
    · exact .inr ⟨x, by simp [hx], h⟩
theorem B_bd {l : List S34} (h : okL l) (t : Int) : B l t ≤ 4096 := B_le.2 ⟨by omega, fun s hs _ => by
  obtain ⟨_, _, _, _, g4, _, g6, _, g8⟩ := (h.2 s hs).1
  omega⟩
theorem H_bd {l : List S34} (h : okL l) : 0 ≤ Hz l ∧ Hz l ≤ 4096 := by
  refine ⟨?_, H_le.2 ⟨by omega, fun s hs => (okS_p (h.2 s hs).1).2⟩⟩
  exact (H_le.1 (Int.le_refl _)).1
theorem B_anti (l : List S34) {t u : Int} (h : t ≤ u) : B l u ≤ B l t := by
  have := B_le.1 (Int.le_refl (B l t))
  exact B_le.2 ⟨this.1, fun s hs hh => this.2 s hs (by omega)⟩
/-- Each period divides the horizon. -/
theorem H_dvd {l : List S34} (h : okL l) {s : S34} (hs : s ∈ l) : ∃ m, 1 ≤ m ∧ Hz l = m * s.f4 := by
  have hle : s.f4 ≤ Hz l := (H_le.1 (Int.le_refl _)).2 s hs
  have hp := okS_p (h.2 s hs).1
  rcases H_mem l 0 with e | ⟨x, hx, e⟩
  · have : Hz l = 0 := e
    omega
  · have e' : Hz l = x.f4 := e
    obtain ⟨⟨j, hj, ej⟩, _⟩ := (h.2 x hx).1
    obtain ⟨⟨i, hi, ei⟩, _⟩ := (h.2 s hs).1
    rw [e', ej, ei] at hle
    have hij : i ≤ j := by
      rcases Nat.lt_or_ge j i with hlt | hge
      · have h2 : (2 : Nat) ^ j < 2 ^ i := Nat.pow_lt_pow_right (by decide) hlt
        have e1 : ((2 ^ j : Nat) : Int) = (2 : Int) ^ j := by simp
        have e2 : ((2 ^ i : Nat) : Int) = (2 : Int) ^ i := by simp
        rw [← e1, ← e2] at hle
        generalize 2 ^ j = a at *
        generalize 2 ^ i = b at *
        omega
      · exact hge
    obtain ⟨d, rfl⟩ : ∃ d, j = i + d := ⟨j - i, by omega⟩
    refine ⟨2 ^ d, by have := pow_pos_int d; omega, ?_⟩
    rw [e', ej, ei, Int.pow_add, Int.mul_comm]
theorem d1_period {s : S34} (h : okS s) (m t : Int) (hm : 1 ≤ m) (h0 : 0 ≤ t) : d1 (t + m * s.f4) s = d1 t s + s.f0 * m := by
  have hp := okS_p h
  obtain ⟨_, g1, g2, g3, g4, _⟩ := h
  have hmp : s.f4 ≤ m * s.f4 := by
    have := Int.mul_le_mul_of_nonneg_right hm (show 0 ≤ s.f4 by omega)
    omega
  unfold d1
  rw [if_neg (by omega)]
  have e : (t + m * s.f4 - s.f3) / s.f4 = (t - s.f3) / s.f4 + m := by
    rw [show t + m * s.f4 - s.f3 = (t - s.f3) + m * s.f4 from by omega, Int.add_mul_ediv_right _ _ (by omega)]
  rw [e]
  by_cases hd : t < s.f3
  · rw [if_pos hd]
    have : (t - s.f3) / s.f4 = -1 := by
      rw [show t - s.f3 = (t - s.f3 + s.f4) + (-1) * s.f4 from by omega, Int.add_mul_ediv_right _ _ (by omega), Int.ediv_eq_zero_of_lt (by omega) (by omega)]
      rfl
    rw [this]
    rw [show (-1 + m + 1 : Int) = m from by omega]
    omega
  · rw [if_neg hd, show (t - s.f3) / s.f4 + m + 1 = ((t - s.f3) / s.f4 + 1) + m from by omega, Int.mul_add]
/-- In each horizon as much more is due. -/
theorem D_period {l : List S34} (h : okL l) (t : Int) (h0 : 0 ≤ t) : D l (t + Hz l) = D l t + D l (Hz l) := by
  have key : ∀ (m : List S34), (∀ s ∈ m, s ∈ l) → D m (t + Hz l) = D m t + D m (Hz l) := by
    intro m
    induction m with
    | nil => intro _; rfl
    | cons s m ih =>
      intro hm
      have hs := hm s (by simp)
      obtain ⟨k, hk, e⟩ := H_dvd h hs
      have i := ih (fun x hx => hm x (by simp [hx]))
      have hok := (h.2 s hs).1
      have e1 := d1_period hok k t hk h0
      have e2 := d1_period hok k 0 hk (by omega)
      have z : d1 0 s = 0 := by unfold d1; rw [if_pos (by have := hok.2.1; omega)]
      rw [← e] at e1 e2
      rw [Int.zero_add, z, Int.zero_add] at e2
      rw [D_cons, D_cons, D_cons, i, e1, e2]
      omega
  exact key l (fun _ h => h)
theorem D_zero {l : List S34} (h : okL l) : D l 0 = 0 := by
  have key : ∀ (m : List S34), (∀ s ∈ m, s ∈ l) → D m 0 = 0 := by
    intro m
    induction m with
    | nil => intro _; rfl
    | cons s m ih =>
      intro hm
      have hok := (h.2 s (hm s (by simp))).1
      rw [D_cons, ih (fun x hx => hm x (by simp [hx]))]
      unfold d1
      rw [if_pos (by have := hok.2.1; omega)]
      rfl
  exact key l (fun _ h => h)
/-- They fit: at all times. -/
def AllFit (l : List S34) : Prop := ∀ t, 1 ≤ t → 0 < D l t → D l t + B l t ≤ t
/-- They fit up to the horizon. -/
def HorFit (l : List S34) : Prop := ∀ t, 1 ≤ t → t ≤ Hz l → 0 < D l t → D l t + B l t ≤ t
/-- They fit at deadlines up to the horizon. -/
def DeadFit (l : List S34) : Prop := ∀ s ∈ l, ∀ i : Nat, s.f3 + i * s.f4 ≤ Hz l → D l (s.f3 + i * s.f4) + B l (s.f3 + i * s.f4) ≤ s.f3 + i * s.f4
theorem B_late {l : List S34} (h : okL l) {t : Int} (ht : Hz l ≤ t) : B l t = 0 := by
  have h1 := B_nonneg l t
  have h2 : B l t ≤ 0 := B_le.2 ⟨by omega, fun s hs hh => by
    have := (H_le.1 (Int.le_refl (Hz l))).2 s hs
    have := (h.2 s hs).1.2.2.1
    omega⟩
  omega
theorem D_le_of_hor {l : List S34} (h : okL l) (hf : HorFit l) : ∀ (n : Nat) (t : Int), t = n → D l t ≤ t := by
  intro n
  induction n using Nat.strongRecOn with
  | _ n ih =>
    intro t ht
    have hH := H_bd h
    by_cases hle : t ≤ Hz l
    · by_cases hz : t = 0
      · rw [hz, D_zero h]; omega
      · by_cases hd : 0 < D l t
        · have := hf t (by omega) hle hd
          have := B_nonneg l t
          omega
        · omega
    · by_cases hz : Hz l = 0
      · have e := D_period h t (by omega)
        rw [hz, Int.add_zero, D_zero h] at e
        have hnil : l = [] := by
          cases l with
          | nil => rfl
          | cons s l =>
            have a := (H_le.1 (Int.le_refl (Hz (s :: l)))).2 s (by simp)
            have b := okS_p (h.2 s (by simp)).1
            omega
        rw [hnil, D_nil]
        omega
      · have i := ih (n - (Hz l).toNat) (by omega) (t - Hz l) (by omega)
        have e := D_period h (t - Hz l) (by omega)
        rw [show t - Hz l + Hz l = t from by omega] at e
        have hHH : D l (Hz l) ≤ Hz l := by
          by_cases hd : 0 < D l (Hz l)
          · have := hf (Hz l) (by omega) (Int.le_refl _) hd
            have := B_nonneg l (Hz l)
            omega
          · omega
        omega
theorem all_of_hor {l : List S34} (h : okL l) (hf : HorFit l) : AllFit l := by
  intro t h1 hd
  by_cases hle : t ≤ Hz l
  · exact hf t h1 hle hd
  · rw [B_late h (by omega), Int.add_zero]
    exact D_le_of_hor h hf t.toNat t (by omega)
theorem hor_of_dead {l : List S34} (h : okL l) (hf : DeadFit l) : HorFit l := by
  -- go back from t, tick by tick, to the last time at which the demand grew
  have key : ∀ (n : Nat) (t : Int), t = n → t ≤ Hz l → 0 < D l t → D l t + B l t ≤ t := by
    intro n
    induction n with
    | zero => intro t ht _ hd; rw [ht, show ((0 : Nat) : Int) = 0 from rfl, D_zero h] at hd; omega
    | succ n ih =>
      intro t ht hle hd
      by_cases hg : ∃ s ∈ l, ∃ i : Nat, t = s.f3 + i * s.f4
      · obtain ⟨s, hs, i, e⟩ := hg
        rw [e] at hle ⊢
        exact hf s hs i hle
      · have same : ∀ (m : List S34), (∀ s ∈ m, s ∈ l) → D m t = D m (t - 1) := by
          intro m
          induction m with
          | nil => intro _; rfl
          | cons s m im =>
            intro hm
            have hs := hm s (by simp)
            have hp := okS_p (h.2 s hs).1
            rw [D_cons, D_cons, im (fun x hx => hm x (by simp [hx]))]
            have e : d1 t s = d1 (t - 1) s := by
              unfold d1
              by_cases h1 : t < s.f3
              · rw [if_pos h1, if_pos (by omega)]
              · have hne : t ≠ s.f3 := fun e => hg ⟨s, hs, 0, by simp [e]⟩
                rw [if_neg h1, if_neg (by omega)]
                have q0 : 0 ≤ (t - s.f3) / s.f4 := Int.ediv_nonneg (by omega) (by omega)
                have hr0 := Int.emod_nonneg (t - s.f3) (show s.f4 ≠ 0 by omega)
                have hr1 := Int.emod_lt_of_pos (t - s.f3) (show 0 < s.f4 by omega)
                have hm := Int.mul_ediv_add_emod (t - s.f3) s.f4
                have hrne : (t - s.f3) % s.f4 ≠ 0 := fun e => hg ⟨s, hs, ((t - s.f3) / s.f4).toNat, by
                  rw [Int.toNat_of_nonneg q0, Int.mul_comm]
                  omega⟩
                have e2 : (t - 1 - s.f3) / s.f4 = (t - s.f3) / s.f4 := by
                  have e3 : t - 1 - s.f3 = ((t - s.f3) % s.f4 - 1) + (t - s.f3) / s.f4 * s.f4 := by
                    rw [Int.mul_comm]
                    omega
                  rw [e3, Int.add_mul_ediv_right _ _ (by omega), Int.ediv_eq_zero_of_lt (by omega) (by omega), Int.zero_add]
                rw [e2]
            rw [e]
        have hs := same l (fun _ h => h)
        have := ih (t - 1) (by omega) (by omega) (by omega)
        have := B_anti l (show t - 1 ≤ t by omega)
        omega
  intro t h1 hle hd
  exact key t.toNat t (by omega) hle hd
theorem dead_of_all {l : List S34} (h : okL l) (hf : AllFit l) : DeadFit l := by
  intro s hs i hle
  have hok := (h.2 s hs).1
  have hp := okS_p hok
  have hH := H_bd h
  have hn : 0 ≤ (i : Int) * s.f4 := Int.mul_nonneg (by omega) (by omega)
  have h1 := hok.2.1
  generalize (i : Int) * s.f4 = q at *
  refine hf _ (by omega) ?_
  have hk : ∀ x ∈ l, okS x := fun x hx => (h.2 x hx).1
  have key : ∀ (m : List S34), (∀ x ∈ m, okS x) → s ∈ m → 1 ≤ D m (s.f3 + q) := by
    intro m
    induction m with
    | nil => intro _ hm; cases hm
    | cons x m im =>
      intro hx hm
      rw [D_cons]
      have a := d1_bd (hx x (by simp)) (s.f3 + q) (by omega) (by omega)
      have b := D_bd (l := m) (fun y hy => hx y (by simp [hy])) (s.f3 + q) (by omega) (by omega)
      rcases List.mem_cons.1 hm with e | hm
      · rw [← e] at a ⊢
        have := a.2.2 (by omega)
        omega
      · have := im (fun y hy => hx y (by simp [hy])) hm
        omega
  have := key l hk hs
  omega
theorem dead_iff {l : List S34} (h : okL l) : DeadFit l ↔ AllFit l := ⟨fun hf => all_of_hor h (hor_of_dead h hf), dead_of_all h⟩
theorem hor_iff {l : List S34} (h : okL l) : HorFit l ↔ AllFit l := ⟨all_of_hor h, fun hf t h1 _ hd => hf t h1 hd⟩
theorem horizon_eq (l : List S34) : (okL l → edf_Horizon.f l = some (Hz l)) ∧ (¬ okL l → edf_Horizon.f l = some 0) := by
  obtain ⟨c, hc, _, hi⟩ := edfCheck_eq l
  unfold edf_Horizon.f
  rw [hc]
  simp only [Option.bind_some]
  refine ⟨fun h => ?_, fun h => ?_⟩
  · rw [if_pos (hi.2 h)]; rfl
  · rw [if_neg (fun e => h (hi.1 e))]
theorem atV_eq (l : List S34) (t : Int) (u : Option Int) (v : Int) (hu : okL l → 0 ≤ t → t ≤ 1099511627775 → u = some v) :
    atV (edf_Check.f l) t u = some (by classical exact if okL l then (if 0 ≤ t ∧ t ≤ 1099511627775 then (v, 0) else (0, 151)) else (0, 150)) := by
  classical
  obtain ⟨c, hc, h2, hi⟩ := edfCheck_eq l
  unfold atV
  rw [hc]
  simp only [Option.bind_some]
  by_cases h : okL l
  · rw [if_pos (hi.2 h), if_pos h]
    by_cases ht : 0 ≤ t ∧ t ≤ 1099511627775
    · rw [if_pos ht, if_pos ht, hu h ht.1 ht.2]; rfl
    · rw [if_neg ht, if_neg ht]
  · have h0 : ¬ c = 0 := fun e => h (hi.1 e)
    have : c = 150 := by rcases h2 with e | e; exact absurd e h0; exact e
    rw [if_neg h0, if_neg h, this]
end Go.Proofs.YtjbmogipdoiebaaDoor.Q
