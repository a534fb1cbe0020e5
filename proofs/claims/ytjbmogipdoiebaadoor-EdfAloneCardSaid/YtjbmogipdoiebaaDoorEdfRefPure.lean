/- Plain facts: what Fits of layer 15 and the functions of its reference come to. No memory and no Go in it. -/
import Derived.Test.YtjbmogipdoiebaaDoorQx7
import Derived.Test.YtjbmogipdoiebaaDoorQx8
import Derived.Test.YtjbmogipdoiebaaDoorQx10
import Derived.Test.YtjbmogipdoiebaaDoorRefTwoPure
import Derived.Test.YtjbmogipdoiebaaDoorEdfPure
set_option linter.unusedVariables false
namespace Go.Proofs.YtjbmogipdoiebaaDoor.Q
open Go.RowKit Go.Proofs.YtjbmogipdoiebaaDoorW.PrintWords Go.Proofs.YtjbmogipdoiebaaDoorW.PrintLast Go.Proofs.YtjbmogipdoiebaaDoorW.PrintMore

/-- A proposition's truth, as a Bool. -/
noncomputable def dec (P : Prop) : Bool := @decide P (Classical.propDecidable P)
theorem dec_iff {P : Prop} : dec P = true ↔ P := by unfold dec; exact @decide_eq_true_iff P (Classical.propDecidable P)
theorem dec_yes {P : Prop} (h : P) : dec P = true := dec_iff.2 h
theorem dec_no {P : Prop} (h : ¬ P) : dec P = false := by
  cases e : dec P
  · rfl
  · exact absurd (dec_iff.1 e) h
theorem dec_congr {P Q : Prop} (h : P ↔ Q) : dec P = dec Q := by rw [propext h]
theorem rdT_nat (l : List S34) (i : Nat) (h : i < l.length) : l.drop i = rd_T34 l (i : Int) :: l.drop (i + 1) := by
  rw [List.drop_eq_getElem_cons h]
  unfold rd_T34
  rw [Int.toNat_natCast, List.getD_eq_getElem?_getD, List.getElem?_eq_getElem h, Option.getD_some]
theorem rdT_mem (l : List S34) (i : Nat) (h : i < l.length) : rd_T34 l (i : Int) ∈ l := by
  unfold rd_T34
  rw [Int.toNat_natCast, List.getD_eq_getElem?_getD, List.getElem?_eq_getElem h, Option.getD_some]
  exact List.getElem_mem h

/-! ### Fits -/
def GoodFrom (l : List S34) (p t : Int) : Prop := ∀ j : Nat, t + j * p ≤ Hz l → D l (t + j * p) + B l (t + j * p) ≤ t + j * p
theorem good_past {l : List S34} {p t : Int} (hp : 1 ≤ p) (h : Hz l < t) : GoodFrom l p t := fun j hle => by
  have := Int.mul_nonneg (show (0 : Int) ≤ (j : Int) by omega) (show 0 ≤ p by omega)
  omega
theorem good_step {l : List S34} {p t : Int} (h : D l t + B l t ≤ t) : GoodFrom l p t ↔ GoodFrom l p (t + p) := by
  constructor
  · intro hg j hle
    have e : t + p + (j : Int) * p = t + ((j + 1 : Nat) : Int) * p := by rw [show ((j + 1 : Nat) : Int) = (j : Int) + 1 from by omega, Int.add_mul]; omega
    rw [e] at hle ⊢
    exact hg (j + 1) hle
  · intro hg j hle
    cases j with
    | zero => simpa using h
    | succ j =>
      have e : t + ((j + 1 : Nat) : Int) * p = t + p + (j : Int) * p := by rw [show ((j + 1 : Nat) : Int) = (j : Int) + 1 from by omega, Int.add_mul]; omega
      rw [e] at hle ⊢
      exact hg j hle
theorem fits_l1 {l : List S34} (h : okL l) (i : Nat) (hi : i ≤ 100) (b : Bool) (K0 : Nat) (hN : ∀ k, K0 ≤ k → edf_Fits.l0 k l l (l.length : Int) ((i : Int) + 1) = some b) (c0 c1 c2 c3 p : Int) (hp : 1 ≤ p) (hp2 : p ≤ 4096) (n : Nat) :
    ∀ (k : Nat) (t : Int), Hz l < t + n → 1 ≤ t → t ≤ 9000 → K0 + n < k → edf_Fits.l1 k l t l (l.length : Int) (i : Int) c0 c1 c2 c3 p = some (dec (GoodFrom l p t) && b) := by
  have hH := H_bd h
  have hz := (horizon_eq l).1 h
  induction n with
  | zero =>
    intro k t hl h1 h2 hk
    obtain ⟨k, rfl⟩ : ∃ m, k = m + 1 := ⟨k - 1, by omega⟩
    simp only [edf_Fits.l1]
    rw [hz]
    simp only [Option.bind_some]
    rw [if_neg (by omega), w64 (by omega) (by omega), hN k (by omega), dec_yes (good_past hp (by omega)), Bool.true_and]
  | succ n ih =>
    intro k t hl h1 h2 hk
    obtain ⟨k, rfl⟩ : ∃ m, k = m + 1 := ⟨k - 1, by omega⟩
    simp only [edf_Fits.l1]
    rw [hz]
    simp only [Option.bind_some]
    by_cases hle : t ≤ Hz l
    · have d0 := D_bd (l := l) (fun s hs => (h.2 s hs).1) t (by omega) (by omega)
      have bb := B_bd h t
      have b0 := B_nonneg l t
      have hlen := h.1
      rw [if_pos hle, demand_eq h t (by omega) (by omega)]
      simp only [Option.bind_some]
      rw [show edf_block.f l t = some (B l t) from rfl]
      simp only [Option.bind_some]
      rw [w64 (x := D l t + B l t) (by omega) (by omega)]
      by_cases hb : D l t + B l t > t
      · rw [if_pos hb, dec_no, Bool.false_and]
        intro hg
        have := hg 0 (by simpa using hle)
        simp at this
        omega
      · rw [if_neg hb, w64 (by omega) (by omega), ih k (t + p) (by omega) (by omega) (by omega) (by omega), dec_congr (good_step (p := p) (by omega : D l t + B l t ≤ t))]
    · rw [if_neg hle, w64 (by omega) (by omega), hN k (by omega), dec_yes (good_past hp (by omega)), Bool.true_and]
theorem fits_l0 {l : List S34} (h : okL l) (C : Nat) (hC : 4150 ≤ C) (d : Nat) : ∀ (i k : Nat), i + d = l.length → d * C < k → edf_Fits.l0 k l l (l.length : Int) (i : Int) = some (dec (∀ s ∈ l.drop i, GoodFrom l s.f4 s.f3)) := by
  have hlen := h.1
  induction d with
  | zero =>
    intro i k hi hk
    obtain ⟨k, rfl⟩ : ∃ m, k = m + 1 := ⟨k - 1, by omega⟩
    simp only [edf_Fits.l0]
    rw [if_neg (by omega), dec_yes]
    intro s hs
    rw [List.drop_eq_nil_of_le (by omega)] at hs
    cases hs
  | succ d ih =>
    intro i k hi hk
    obtain ⟨k, rfl⟩ : ∃ m, k = m + 1 := ⟨k - 1, by omega⟩
    have hlt : i < l.length := by omega
    have hs := rdT_mem l i hlt
    have hok := (h.2 _ hs).1
    have hp := okS_p hok
    have hH := H_bd h
    simp only [edf_Fits.l0]
    rw [if_pos (by omega), if_pos (by omega), if_pos (by omega)]
    rw [Nat.succ_mul] at hk
    obtain ⟨K0, hK0⟩ : ∃ K0, K0 = d * C + 1 := ⟨_, rfl⟩
    have hlow : ∀ k', K0 ≤ k' → d * C < k' := fun k' hk' => by omega
    have hN : ∀ k', K0 ≤ k' → edf_Fits.l0 k' l l (l.length : Int) ((i : Int) + 1) = some (dec (∀ s ∈ l.drop (i + 1), GoodFrom l s.f4 s.f3)) := fun k' hk' => by
      have := ih (i + 1) k' (by omega) (hlow k' hk')
      rw [show ((i + 1 : Nat) : Int) = (i : Int) + 1 from by omega] at this
      exact this
    have g1 := hok.2.1
    have g2 := hok.2.2.1
    obtain ⟨n, hn⟩ : ∃ n : Nat, n = 4100 := ⟨_, rfl⟩
    rw [fits_l1 h i (by omega) _ K0 hN _ _ _ _ _ hp.1 hp.2 n k _ (by omega) g1 (by omega) (by omega)]
    congr 1
    rw [rdT_nat l i hlt]
    generalize hx : rd_T34 l (i : Int) = x
    rw [Bool.eq_iff_iff, Bool.and_eq_true, dec_iff, dec_iff, dec_iff]
    simp only [List.mem_cons, forall_eq_or_imp]
theorem fits_eq (l : List S34) (k : Nat) (hk : 40000 < k) : edf_Fits.f k l = some (dec (okL l ∧ AllFit l)) := by
  obtain ⟨c, hc, _, hi⟩ := edfCheck_eq l
  unfold edf_Fits.f
  rw [hc]
  simp only [Option.bind_some]
  by_cases h : okL l
  · have hlen := h.1
    have hm : l.length * 4150 ≤ 8 * 4150 := Nat.mul_le_mul_right _ hlen
    have e := fits_l0 h 4150 (Nat.le_refl _) l.length 0 k (by omega) (by omega)
    rw [show ((0 : Nat) : Int) = 0 from rfl, List.drop_zero] at e
    rw [if_pos (hi.2 h), e]
    congr 1
    apply dec_congr
    constructor
    · intro hg
      exact ⟨h, (dead_iff h).1 (fun s hs i hle => hg s hs i hle)⟩
    · rintro ⟨_, ha⟩ s hs j hle
      exact (dead_iff h).2 ha s hs j hle
  · rw [if_neg (fun e => h (hi.1 e)), dec_no (fun e => h e.1)]

/-! ### The reference -/
theorem refShape_eq (s : S34) (k : Nat) (hk : 40 < k) : trefoilref14_Check.f k s.f0 s.f1 s.f2 s.f3 s.f4 = some (dec (okS s)) := by
  unfold trefoilref14_Check.f
  rw [refTwo_eq _ k hk]
  simp only [Option.bind_some]
  by_cases h1 : (twoV s.f4).2 = true
  · rw [if_pos h1]
    obtain ⟨j, hj, e⟩ := twoV_yes h1
    by_cases h2 : s.f4 ≤ 4096
    · have hk2 : j ≤ 12 := pow12 j hj (by omega)
      rw [if_pos h2]
      by_cases g1 : s.f3 ≥ 1
      · rw [if_pos g1]
        by_cases g2 : s.f3 ≤ s.f4
        · rw [if_pos g2]
          by_cases g3 : s.f0 ≥ 1
          · rw [if_pos g3]
            by_cases g4 : s.f0 ≤ 4096
            · rw [if_pos g4]
              by_cases g5 : s.f1 ≥ 1
              · rw [if_pos g5]
                by_cases g6 : s.f1 ≤ s.f0
                · rw [if_pos g6]
                  by_cases g7 : s.f2 ≥ 1
                  · rw [if_pos g7]
                    congr 1
                    rw [Bool.eq_iff_iff, dec_iff, decide_eq_true_iff]
                    exact ⟨fun g8 => ⟨⟨j, hk2, e⟩, g1, g2, g3, g4, g5, g6, g7, g8⟩, fun h => h.2.2.2.2.2.2.2.2⟩
                  · rw [if_neg g7, dec_no (fun h => g7 h.2.2.2.2.2.2.2.1)]
                · rw [if_neg g6, dec_no (fun h => g6 h.2.2.2.2.2.2.1)]
              · rw [if_neg g5, dec_no (fun h => g5 h.2.2.2.2.2.1)]
            · rw [if_neg g4, dec_no (fun h => g4 h.2.2.2.2.1)]
          · rw [if_neg g3, dec_no (fun h => g3 h.2.2.2.1)]
        · rw [if_neg g2, dec_no (fun h => g2 h.2.2.1)]
      · rw [if_neg g1, dec_no (fun h => g1 h.2.1)]
    · rw [if_neg h2, dec_no (fun h => h2 (okS_p h).2)]
  · rw [if_neg h1, dec_no]
    rintro ⟨⟨j, hj, e⟩, _⟩
    apply h1
    rw [e, twoV_pow j (by omega)]
theorem refCheck_l0 (l : List S34) (hl : l.length ≤ 20) (d : Nat) : ∀ (k i : Nat), i + d = l.length → d + 41 < k → trefoilref15_Check.l0 k l (i : Int) = some (dec ((∀ s ∈ l.drop i, okS s ∧ s.f0 ≤ s.f3) ∧ l.length ≤ 8)) := by
  induction d with
  | zero =>
    intro k i hi hk
    obtain ⟨k, rfl⟩ : ∃ m, k = m + 1 := ⟨k - 1, by omega⟩
    simp only [trefoilref15_Check.l0]
    rw [if_neg (by omega), List.drop_eq_nil_of_le (by omega)]
    congr 1
    rw [Bool.eq_iff_iff, dec_iff, decide_eq_true_iff]
    exact ⟨fun h => ⟨fun s hs => (by cases hs), by omega⟩, fun h => by have := h.2; omega⟩
  | succ d ih =>
    intro k i hi hk
    obtain ⟨k, rfl⟩ : ∃ m, k = m + 1 := ⟨k - 1, by omega⟩
    have hlt : i < l.length := by omega
    simp only [trefoilref15_Check.l0]
    rw [if_pos (by omega), if_pos (by omega), refShape_eq _ k (by omega), rdT_nat l i hlt]
    simp only [Option.bind_some]
    generalize hx : rd_T34 l (i : Int) = x
    by_cases h1 : okS x
    · rw [if_pos (dec_yes h1)]
      by_cases h2 : x.f0 > x.f3
      · rw [if_pos h2, dec_no]
        intro h
        have := (h.1 x (by simp)).2
        omega
      · rw [if_neg h2, w64 (by omega) (by omega)]
        have := ih k (i + 1) (by omega) (by omega)
        rw [show ((i + 1 : Nat) : Int) = (i : Int) + 1 from by omega] at this
        rw [this]
        congr 1
        apply dec_congr
        simp only [List.mem_cons, forall_eq_or_imp]
        constructor
        · rintro ⟨a, b⟩; exact ⟨⟨⟨h1, by omega⟩, a⟩, b⟩
        · rintro ⟨⟨_, a⟩, b⟩; exact ⟨a, b⟩
    · rw [if_neg (by rw [dec_no h1]; decide), dec_no]
      intro h
      exact h1 (h.1 x (by simp)).1
theorem refCheckL_eq (l : List S34) (hl : l.length ≤ 20) (k : Nat) (hk : 70 < k) : trefoilref15_Check.f k l = some (dec (okL l)) := by
  unfold trefoilref15_Check.f
  have := refCheck_l0 l hl l.length k 0 (by omega) (by omega)
  rw [show ((0 : Nat) : Int) = 0 from rfl, List.drop_zero] at this
  rw [this]
  congr 1
  exact dec_congr ⟨fun h => ⟨h.2, h.1⟩, fun h => ⟨h.2, h.1⟩⟩
theorem refHor_l0 {l : List S34} (h : okL l) (d : Nat) : ∀ (k i : Nat) (n : Int), i + d = l.length → d + 71 < k → trefoilref15_Horizon.l0 k l n (i : Int) = some ((l.drop i).foldl hor1 n) := by
  have hl := h.1
  induction d with
  | zero =>
    intro k i n hi hk
    obtain ⟨k, rfl⟩ : ∃ m, k = m + 1 := ⟨k - 1, by omega⟩
    simp only [trefoilref15_Horizon.l0]
    rw [if_neg (by omega), List.drop_eq_nil_of_le (by omega)]
    rfl
  | succ d ih =>
    intro k i n hi hk
    obtain ⟨k, rfl⟩ : ∃ m, k = m + 1 := ⟨k - 1, by omega⟩
    have hlt : i < l.length := by omega
    simp only [trefoilref15_Horizon.l0]
    rw [if_pos (by omega), refCheckL_eq l (by omega) k (by omega)]
    simp only [Option.bind_some]
    rw [if_pos (dec_yes h), if_pos (by omega), w64 (by omega) (by omega), rdT_nat l i hlt, List.foldl_cons]
    have := ih k (i + 1) (mx n (rd_T34 l (i : Int)).f4) (by omega) (by omega)
    rw [show ((i + 1 : Nat) : Int) = (i : Int) + 1 from by omega] at this
    exact this
theorem refHor_eq (l : List S34) (hl : l.length ≤ 20) (k : Nat) (hk : 100 < k) : (okL l → trefoilref15_Horizon.f k l = some (Hz l)) ∧ (¬ okL l → trefoilref15_Horizon.f k l = some 0) := by
  unfold trefoilref15_Horizon.f
  constructor
  · intro h
    have hl := h.1
    have := refHor_l0 h l.length k 0 0 (by omega) (by omega)
    simpa [Hz, foldV] using this
  · intro h
    obtain ⟨k, rfl⟩ : ∃ m, k = m + 1 := ⟨k - 1, by omega⟩
    simp only [trefoilref15_Horizon.l0]
    by_cases h0 : (0 : Int) < (l.length : Int)
    · rw [if_pos h0, refCheckL_eq l hl k (by omega)]
      simp only [Option.bind_some]
      rw [if_neg (by rw [dec_no h]; decide)]
    · rw [if_neg h0]
theorem refDem_l0 {l : List S34} (h : okL l) (t : Int) (h0 : 0 ≤ t) (h1 : t ≤ 2199023255552) (d : Nat) : ∀ (k i : Nat) (n : Int), i + d = l.length → d < k → 0 ≤ n → n + 9007199254745088 * d ≤ 1152921504606846976 → trefoilref15_Demand.l0 k l t n (i : Int) = some (n + D (l.drop i) t) := by
  have hl := h.1
  induction d with
  | zero =>
    intro k i n hi hk hn hb
    obtain ⟨k, rfl⟩ : ∃ m, k = m + 1 := ⟨k - 1, by omega⟩
    simp only [trefoilref15_Demand.l0]
    rw [if_neg (by omega), List.drop_eq_nil_of_le (by omega), D_nil, Int.add_zero]
  | succ d ih =>
    intro k i n hi hk hn hb
    obtain ⟨k, rfl⟩ : ∃ m, k = m + 1 := ⟨k - 1, by omega⟩
    have hlt : i < l.length := by omega
    have hok := (h.2 _ (rdT_mem l i hlt)).1
    have hp := okS_p hok
    have hd := d1_bd hok t h0 h1
    have he := dem1_eq hok t n h0 h1 hn (by omega)
    simp only [trefoilref15_Demand.l0]
    rw [if_pos (by omega), if_pos (by omega), w64 (x := (i : Int) + 1) (by omega) (by omega), rdT_nat l i hlt, D_cons]
    have hr := ih k (i + 1) (n + d1 t (rd_T34 l (i : Int))) (by omega) (by omega) (by omega) (by omega)
    rw [show ((i + 1 : Nat) : Int) = (i : Int) + 1 from by omega] at hr
    generalize hx : rd_T34 l (i : Int) = x at *
    unfold dem1 at he
    by_cases hg : t ≥ x.f3
    · rw [if_neg (by omega)] at he
      rw [if_pos hg, if_neg (by omega), he, hr]
      congr 1
      omega
    · rw [if_pos (by omega)] at he
      rw [if_neg hg]
      rw [← he] at hr
      rw [hr]
      congr 1
      omega
theorem refDem_eq {l : List S34} (h : okL l) (t : Int) (h0 : 0 ≤ t) (h1 : t ≤ 2199023255552) (k : Nat) (hk : 100 < k) : trefoilref15_Demand.f k l t = some (D l t) := by
  have hl := h.1
  unfold trefoilref15_Demand.f
  have := refDem_l0 h t h0 h1 l.length k 0 0 (by omega) (by omega) (by omega) (by omega)
  simpa using this
theorem refBlk_l0 {l : List S34} (h : okL l) (t : Int) (d : Nat) : ∀ (k i : Nat) (n : Int), i + d = l.length → d < k → trefoilref15_Block.l0 k l t n (i : Int) = some ((l.drop i).foldl (blk1 t) n) := by
  have hl := h.1
  induction d with
  | zero =>
    intro k i n hi hk
    obtain ⟨k, rfl⟩ : ∃ m, k = m + 1 := ⟨k - 1, by omega⟩
    simp only [trefoilref15_Block.l0]
    rw [if_neg (by omega), List.drop_eq_nil_of_le (by omega)]
    rfl
  | succ d ih =>
    intro k i n hi hk
    obtain ⟨k, rfl⟩ : ∃ m, k = m + 1 := ⟨k - 1, by omega⟩
    have hlt : i < l.length := by omega
    simp only [trefoilref15_Block.l0]
    rw [if_pos (by omega), if_pos (by omega), w64 (x := (i : Int) + 1) (by omega) (by omega), rdT_nat l i hlt, List.foldl_cons]
    have hr := fun n => ih k (i + 1) n (by omega) (by omega)
    rw [show ((i + 1 : Nat) : Int) = (i : Int) + 1 from by omega] at hr
    generalize hx : rd_T34 l (i : Int) = x at *
    by_cases hg : x.f3 > t
    · rw [if_pos hg, hr]
      have : blk1 t n x = mx n x.f2 := by unfold blk1; rw [if_pos (by omega)]
      rw [this]
    · rw [if_neg hg, hr]
      have : blk1 t n x = n := by unfold blk1; rw [if_neg (by omega)]
      rw [this]
theorem refBlk_eq {l : List S34} (h : okL l) (t : Int) (k : Nat) (hk : 100 < k) : trefoilref15_Block.f k l t = some (B l t) := by
  have hl := h.1
  unfold trefoilref15_Block.f
  have := refBlk_l0 h t l.length k 0 0 (by omega) (by omega)
  simpa [B, foldV] using this
theorem refFits_l0 {l : List S34} (h : okL l) (n : Nat) : ∀ (k : Nat) (t : Int), Hz l < t + n → 1 ≤ t → t ≤ 5000 → n + 200 < k →
    trefoilref15_Fits.l0 k l t = some (dec (∀ u, t ≤ u → u ≤ Hz l → 0 < D l u → D l u + B l u ≤ u)) := by
  have hH := H_bd h
  have hl := h.1
  induction n with
  | zero =>
    intro k t ht h1 h2 hk
    obtain ⟨k, rfl⟩ : ∃ m, k = m + 1 := ⟨k - 1, by omega⟩
    simp only [trefoilref15_Fits.l0]
    rw [(refHor_eq l (by omega) k (by omega)).1 h]
    simp only [Option.bind_some]
    rw [if_neg (by omega), dec_yes (fun u a b => by omega)]
  | succ n ih =>
    intro k t ht h1 h2 hk
    obtain ⟨k, rfl⟩ : ∃ m, k = m + 1 := ⟨k - 1, by omega⟩
    simp only [trefoilref15_Fits.l0]
    rw [(refHor_eq l (by omega) k (by omega)).1 h]
    simp only [Option.bind_some]
    by_cases hle : t ≤ Hz l
    · have d0 := D_bd (l := l) (fun s hs => (h.2 s hs).1) t (by omega) (by omega)
      have bb := B_bd h t
      have b0 := B_nonneg l t
      have hr := ih k (t + 1) (by omega) (by omega) (by omega) (by omega)
      have hstep : (0 < D l t → D l t + B l t ≤ t) → ((∀ u, t ≤ u → u ≤ Hz l → 0 < D l u → D l u + B l u ≤ u) ↔ (∀ u, t + 1 ≤ u → u ≤ Hz l → 0 < D l u → D l u + B l u ≤ u)) := fun hb =>
        ⟨fun hg u a b c => hg u (by omega) b c, fun hg u a b c => by
          by_cases e : u = t
          · subst e; exact hb c
          · exact hg u (by omega) b c⟩
      rw [if_pos hle, refDem_eq h t (by omega) (by omega) k (by omega)]
      simp only [Option.bind_some]
      by_cases hd : D l t > 0
      · rw [if_pos hd, refBlk_eq h t k (by omega)]
        simp only [Option.bind_some]
        rw [w64 (x := D l t + B l t) (by omega) (by omega)]
        by_cases hb : D l t + B l t > t
        · rw [if_pos hb, dec_no]
          intro hg
          have := hg t (by omega) hle hd
          omega
        · rw [if_neg hb, w64 (by omega) (by omega), hr, dec_congr (hstep (fun _ => by omega))]
      · rw [if_neg hd, w64 (by omega) (by omega), hr, dec_congr (hstep (fun c => absurd c hd))]
    · rw [if_neg hle, dec_yes (fun u a b => by omega)]
theorem refFits_eq (l : List S34) (hl : l.length ≤ 20) (k : Nat) (hk : 40000 < k) : trefoilref15_Fits.f k l = some (dec (okL l ∧ AllFit l)) := by
  unfold trefoilref15_Fits.f
  rw [refCheckL_eq l hl k (by omega)]
  simp only [Option.bind_some]
  by_cases h : okL l
  · have hH := H_bd h
    rw [if_pos (dec_yes h), refFits_l0 h 4100 k 1 (by omega) (by omega) (by omega) (by omega)]
    congr 1
    apply dec_congr
    constructor
    · intro hg
      exact ⟨h, (hor_iff h).1 (fun t a b c => hg t a b c)⟩
    · rintro ⟨_, ha⟩ u a b c
      exact ha u a c
  · rw [if_neg (by rw [dec_no h]; decide), dec_no (fun e => h e.1)]
end Go.Proofs.YtjbmogipdoiebaaDoor.Q
