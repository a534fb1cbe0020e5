-- PRINTED by print.py (a twelfth state) out of the translation. Not trusted: Lean checks it.
import Derived.Test.YtgohgmjfanmbeaaDoorQx0
import Derived.Test.YtgohgmjfanmbeaaDoorQx1
import Derived.Test.YtgohgmjfanmbeaaDoorQx2
namespace Go.Proofs.YtgohgmjfanmbeaaDoor.Q
open Go.RowKit Go.Proofs.YtgohgmjfanmbeaaDoorW.PrintWords Go.Proofs.YtgohgmjfanmbeaaDoorW.PrintLast Go.Proofs.YtgohgmjfanmbeaaDoorW.PrintMore
attribute [local go_sem] max2_int min2_int max_two min_two max_three min_three max_four min_four   -- for this text's walks alone
set_option linter.unusedVariables false
set_option linter.unusedSimpArgs false

/-! ### trefoillaw01_NumTwos: function 7 -/
def trefoillaw01_NumTwos.l0 : Nat → Int → Int → Bool → Int → Int → Int → Option (Bool)
  | 0, _, _, _, _, _, _ => none
  | k + 1, x0, x3, x4, x5, x6, x7 => if x7 < 64 then (if x5 > 0 then (if (Int.tmod x5 2) = 0 then (trefoillaw01_NumTwos.l0 k x0 x3 x4 (wrap64 (Int.tdiv x5 2)) (wrap64 (x6 + 1)) (wrap64 (x7 + 1))) else (if x5 = 1 then (if (x4 == (decide (x0 ≤ 1099511627775))) = true then (if x0 ≤ 1099511627775 then (if x3 = x6 then (some true) else (some false)) else (some (x3 == 0))) else (some false)) else (if (x4 == false) = true then (some (x3 == 0)) else (some false)))) else (if x5 = 1 then (if (x4 == (decide (x0 ≤ 1099511627775))) = true then (if x0 ≤ 1099511627775 then (if x3 = x6 then (some true) else (some false)) else (some (x3 == 0))) else (some false)) else (if (x4 == false) = true then (some (x3 == 0)) else (some false)))) else (if x5 = 1 then (if (x4 == (decide (x0 ≤ 1099511627775))) = true then (if x0 ≤ 1099511627775 then (if x3 = x6 then (some true) else (some false)) else (some (x3 == 0))) else (some false)) else (if (x4 == false) = true then (some (x3 == 0)) else (some false)))
def trefoillaw01_NumTwos.f (k : Nat) (a0 : Int) : Option (Bool) := (trefoillaw01_awake.f k).bind fun t243 => (if t243 = true then ((num_Two.f a0).bind fun bt244 => (trefoillaw01_NumTwos.l0 k a0 bt244.1 bt244.2 a0 0 0)) else (some false))
theorem trefoillaw01_NumTwos.mono_l : ∀ k, (∀ y0 y1 y2 y3 y4 y5, LeO (trefoillaw01_NumTwos.l0 k y0 y1 y2 y3 y4 y5) (trefoillaw01_NumTwos.l0 (k + 1) y0 y1 y2 y3 y4 y5))
  | 0 => fun _ _ _ _ _ _ r h => by simp [trefoillaw01_NumTwos.l0] at h
  | k + 1 => by
    have ih0 := trefoillaw01_NumTwos.mono_l k
    · intro y0 y1 y2 y3 y4 y5
      unfold trefoillaw01_NumTwos.l0
      repeat' first
      | (with_reducible exact ih0 _ _ _ _ _ _)
      | (with_reducible exact trefoillaw01_awake.mono _)
      | (with_reducible exact LeO.refl _)
      | (with_reducible exact LeO.none _)
      | (with_reducible refine LeO.ite ?_ ?_)
      | (with_reducible refine LeO.bind ?_ (fun _ => ?_))
      | exact ih0 _ _ _ _ _ _
      | exact trefoillaw01_awake.mono _
      | exact LeO.none _
      | refine LeO.ite ?_ ?_
      | refine LeO.bind ?_ (fun _ => ?_)
theorem trefoillaw01_NumTwos.mono : ∀ a0 k, LeO (trefoillaw01_NumTwos.f k a0) (trefoillaw01_NumTwos.f (k + 1) a0) := by
  intro a0 k
  have ih0 := trefoillaw01_NumTwos.mono_l k
  unfold trefoillaw01_NumTwos.f
  repeat' first
      | (with_reducible exact ih0 _ _ _ _ _ _)
      | (with_reducible exact trefoillaw01_awake.mono _)
      | (with_reducible exact LeO.refl _)
      | (with_reducible exact LeO.none _)
      | (with_reducible refine LeO.ite ?_ ?_)
      | (with_reducible refine LeO.bind ?_ (fun _ => ?_))
      | exact ih0 _ _ _ _ _ _
      | exact trefoillaw01_awake.mono _
      | exact LeO.none _
      | refine LeO.ite ?_ ?_
      | refine LeO.bind ?_ (fun _ => ?_)
set_option maxHeartbeats 8000000 in
set_option maxRecDepth 100000 in
theorem trefoillaw01_NumTwos.calls (k : Nat) (a0 : Int) (r : Bool) (w : World) (h : trefoillaw01_NumTwos.f k a0 = some r) (hTab : TabOK w := by first | exact hTab | exact TabOK.below hTab HB.out | exact TabOK.drewN hTab _ | exact TabOK.below hTab (by repeat (first | (with_reducible first | exact HB.out | apply below_alloc | apply pw_below_drewN | apply below_drew1) | exact HB.out)) | (repeat (first | exact hTab | apply TabOK.drewN | apply TabOK.drew | apply TabOK.alloc); done)) :
    Calls Tryd.prog 7 #[.int .i64 a0] w fun e w' => e = .returned (.bool r) ∧ Below w.heap.size w w' := by
  have HB := Aside0.mk (Below.refl w.heap.size w)
  have H : ((trefoillaw01_awake.f k).bind fun t243 => (if t243 = true then ((num_Two.f a0).bind fun bt244 => (trefoillaw01_NumTwos.l0 k a0 bt244.1 bt244.2 a0 0 0)) else (some false))) = some r := h
  clear h
  replace H := Option.bind_eq_some_iff.mp H
  obtain ⟨t243, A20, H⟩ := H
  replace H : (if t243 = true then ((num_Two.f a0).bind fun bt244 => (trefoillaw01_NumTwos.l0 k a0 bt244.1 bt244.2 a0 0 0)) else (some false)) = some r := H
  have A2 := Aside0.mk A20
  clear A20
  by_cases c3 : t243 = true
  · subst c3
    have H1 : ((num_Two.f a0).bind fun bt244 => (trefoillaw01_NumTwos.l0 k a0 bt244.1 bt244.2 a0 0 0)) = some r := by rw [if_pos rfl] at H; exact H
    clear H
    have H := H1
    clear H1
    replace H := Option.bind_eq_some_iff.mp H
    obtain ⟨⟨t244, t245⟩, A40, H⟩ := H
    replace H : (trefoillaw01_NumTwos.l0 k a0 t244 t245 a0 0 0) = some r := H
    have A4 := Aside0.mk A40
    clear A40
    have H' := Aside0.mk H
    clear H
    go_enter Tryd.func7, Tryd.ntmps7
    go_wp2_with (first | ((with_reducible refine gate_callee (f := 10) rfl ?_); refine goesL_ (some 9) rfl rfl Tryd.func10 (by kernel_rfl) rfl #[] rfl (by (try simp only [List.map_toArray, List.map_cons, List.map_nil]); first | done | rfl | (simp only [List.length_drop, List.length_take]; rfl)) ?_; (with_reducible refine (trefoillaw01_awake.calls k  true _ A2.out).mono ?_); rintro e w5 ⟨rfl, hb⟩; refine ⟨_, rfl, ?_⟩; have n0_ := Aside0.mk (below_step (by repeat (first | (with_reducible first | exact HB.out | apply below_alloc | apply pw_below_drewN | apply below_drew1) | exact HB.out)) hb); clear HB; have HB := n0_; clear n0_; (try clear hb); (try clear hb2); (try clear hk); (try clear hi)) | ((with_reducible refine gate_callee (f := 17) rfl ?_); refine goesL_ (some 13) rfl rfl Tryd.func17 (by kernel_rfl) rfl #[.int .i64 a0] rfl (by (try simp only [List.map_toArray, List.map_cons, List.map_nil]); first | done | rfl | (simp only [List.length_drop, List.length_take]; rfl)) ?_; (with_reducible refine (num_Two.calls a0 t244 t245 _ A4.out).mono ?_); rintro e w' ⟨rfl, ⟨nd, rfl⟩⟩; refine ⟨_, rfl, ?_⟩))
    go_loopg [5, 6, 7] k (fun kq v5 v6 v7 w' => ∃ (x5_1 : Int) (x6_1 : Int) (x7_1 : Int), v5 = .int .i64 x5_1 ∧ v6 = .int .i64 x6_1 ∧ v7 = .int .i64 x7_1 ∧ Aside0 (trefoillaw01_NumTwos.l0 kq a0 t244 t245 x5_1 x6_1 x7_1 = some r) ∧ Aside0 (kq ≤ k) ∧ Aside0 (Below w.heap.size w w'))
    case atStart => exact ⟨(a0), (0), (0), (by first | rfl | (simp; done) | (simp [*]; done)), (by first | rfl | (simp; done) | (simp [*]; done)), (by first | rfl | (simp; done) | (simp [*]; done)), H', ⟨Nat.le_refl _⟩, ⟨by repeat (first | (with_reducible first | exact HB.out | apply below_alloc | apply pw_below_drewN | apply below_drew1) | exact HB.out)⟩⟩
    case round =>
      clear H'
      try clear c1
      try clear p2
      try clear c3
      obtain ⟨x5_1, x6_1, x7_1, rfl, rfl, rfl, HA, HK1, HB⟩ := hrel
      cases gk with
      | zero => exact absurd HA.out (by simp [trefoillaw01_NumTwos.l0])
      | succ k1 =>
        have H := HA.out
        clear HA
        simp only [trefoillaw01_NumTwos.l0] at H
        by_cases c6 : x7_1 < 64
        · rw [if_pos c6] at H
          have c6b0 : decide (x7_1 < 64) = true := decide_eq_true c6
          clear c6
          by_cases c7 : x5_1 > 0
          · rw [if_pos c7] at H
            have c7b0 : decide (0 < x5_1) = true := decide_eq_true c7
            clear c7
            by_cases c8 : (Int.tmod x5_1 2) = 0
            · rw [if_pos c8] at H
              have c8b0 : ((Int.tmod x5_1 2) == 0) = true := beq_iff_eq.mpr c8
              have c8b1 : ((Int.tmod x5_1 2) != 0) = false := bne_eq_false_iff_eq.mpr c8
              clear c8
              have H' := Aside0.mk H
              clear H
              go_wp2
              go_roundg k1
              case measure => have := HK1.out; omega
              case rel => exact ⟨(wrap64 (Int.tdiv x5_1 2)), (wrap64 (x6_1 + 1)), (wrap64 (x7_1 + 1)), (by first | rfl | (simp; done) | (simp [*]; done)), (by first | rfl | (simp; done) | (simp [*]; done)), (by first | rfl | (simp; done) | (simp [*]; done)), H', ⟨by have := HK1.out; omega⟩, ⟨by repeat (first | (with_reducible first | exact HB.out | apply below_alloc | apply pw_below_drewN | apply below_drew1) | exact HB.out)⟩⟩
            · rw [if_neg c8] at H
              have c8b0 : ((Int.tmod x5_1 2) == 0) = false := beq_eq_false_iff_ne.mpr c8
              have c8b1 : ((Int.tmod x5_1 2) != 0) = true := bne_iff_ne.mpr c8
              have c8e : x5_1 % 2 = 1 := by have hp := of_decide_eq_true c7b0; have hn := c8; rw [Int.tmod_eq_emod_of_nonneg (by omega)] at hn; omega
              by_cases c9 : x5_1 = 1
              · rw [if_pos c9] at H
                have c9b0 : (x5_1 == 1) = true := beq_iff_eq.mpr c9
                have c9b1 : (x5_1 != 1) = false := bne_eq_false_iff_eq.mpr c9
                clear c9
                by_cases c10 : (t245 == (decide (a0 ≤ 1099511627775))) = true
                · rw [if_pos c10] at H
                  have c10b0 : (t245 == (decide (a0 ≤ 1099511627775))) = true := c10
                  (try (have c10b1 : decide (t245 = (decide (a0 ≤ 1099511627775))) = true := by simpa using c10))
                  (try (have c10b2 : (t245 == (decide (a0 ≤ 1099511627775))) = true := by simpa using c10))
                  clear c10
                  by_cases c11 : a0 ≤ 1099511627775
                  · rw [if_pos c11] at H
                    have c11b0 : decide (a0 ≤ 1099511627775) = true := decide_eq_true c11
                    have c11z : t245 = true := by simpa [c11b0] using (by assumption : (t245 == (decide (a0 ≤ 1099511627775))) = true)
                    clear c11
                    by_cases c12 : t244 = x6_1
                    · rw [if_pos c12] at H
                      have c12b0 : (t244 == x6_1) = true := beq_iff_eq.mpr c12
                      have c12b1 : (t244 != x6_1) = false := bne_eq_false_iff_eq.mpr c12
                      clear c12
                      obtain rfl := Option.some.inj H
                      go_wp2
                      go_ret
                      exact ⟨by first | rfl | (simp [errW_none, errW_some] <;> rfl) | (simp [*, errW_none, errW_some] <;> rfl), by repeat (first | (with_reducible first | exact HB.out | apply below_alloc | apply pw_below_drewN | apply below_drew1) | exact HB.out)⟩
                    · rw [if_neg c12] at H
                      have c12b0 : (t244 == x6_1) = false := beq_eq_false_iff_ne.mpr c12
                      have c12b1 : (t244 != x6_1) = true := bne_iff_ne.mpr c12
                      obtain rfl := Option.some.inj H
                      go_wp2
                      go_ret
                      exact ⟨by first | rfl | (simp [errW_none, errW_some] <;> rfl) | (simp [*, errW_none, errW_some] <;> rfl), by repeat (first | (with_reducible first | exact HB.out | apply below_alloc | apply pw_below_drewN | apply below_drew1) | exact HB.out)⟩
                  · rw [if_neg c11] at H
                    have c11b0 : decide (a0 ≤ 1099511627775) = false := decide_eq_false c11
                    have c11z : t245 = false := by simpa [c11b0] using (by assumption : (t245 == (decide (a0 ≤ 1099511627775))) = true)
                    clear c11
                    obtain rfl := Option.some.inj H
                    go_wp2
                    go_ret
                    exact ⟨by first | rfl | (simp [errW_none, errW_some] <;> rfl) | (simp [*, errW_none, errW_some] <;> rfl), by repeat (first | (with_reducible first | exact HB.out | apply below_alloc | apply pw_below_drewN | apply below_drew1) | exact HB.out)⟩
                · rw [if_neg c10] at H
                  have c10b0 : (t245 == (decide (a0 ≤ 1099511627775))) = false := by simpa using c10
                  (try (have c10b1 : decide (t245 = (decide (a0 ≤ 1099511627775))) = false := by simpa using c10))
                  (try (have c10b2 : (t245 == (decide (a0 ≤ 1099511627775))) = false := by simpa using c10))
                  (try (have c10b3 : ¬ (t245 = (decide (a0 ≤ 1099511627775))) := by simpa using c10))
                  clear c10
                  obtain rfl := Option.some.inj H
                  go_wp2
                  go_ret
                  exact ⟨by first | rfl | (simp [errW_none, errW_some] <;> rfl) | (simp [*, errW_none, errW_some] <;> rfl), by repeat (first | (with_reducible first | exact HB.out | apply below_alloc | apply pw_below_drewN | apply below_drew1) | exact HB.out)⟩
              · rw [if_neg c9] at H
                have c9b0 : (x5_1 == 1) = false := beq_eq_false_iff_ne.mpr c9
                have c9b1 : (x5_1 != 1) = true := bne_iff_ne.mpr c9
                by_cases c13 : (t245 == false) = true
                · rw [if_pos c13] at H
                  have c13b0 : (t245 == false) = true := c13
                  have c13z : t245 = false := by revert c13b0; cases t245 <;> simp
                  (try (have c13b1 : decide (t245 = false) = true := by simpa using c13))
                  (try (have c13b2 : (t245 == false) = true := by simpa using c13))
                  clear c13
                  obtain rfl := Option.some.inj H
                  go_wp2
                  go_ret
                  exact ⟨by first | rfl | (simp [errW_none, errW_some] <;> rfl) | (simp [*, errW_none, errW_some] <;> rfl), by repeat (first | (with_reducible first | exact HB.out | apply below_alloc | apply pw_below_drewN | apply below_drew1) | exact HB.out)⟩
                · rw [if_neg c13] at H
                  have c13b0 : (t245 == false) = false := by simpa using c13
                  have c13z : t245 = true := by revert c13b0; cases t245 <;> simp
                  (try (have c13b1 : decide (t245 = false) = false := by simpa using c13))
                  (try (have c13b2 : (t245 == false) = false := by simpa using c13))
                  (try (have c13b3 : ¬ (t245 = false) := by simpa using c13))
                  clear c13
                  obtain rfl := Option.some.inj H
                  go_wp2
                  go_ret
                  exact ⟨by first | rfl | (simp [errW_none, errW_some] <;> rfl) | (simp [*, errW_none, errW_some] <;> rfl), by repeat (first | (with_reducible first | exact HB.out | apply below_alloc | apply pw_below_drewN | apply below_drew1) | exact HB.out)⟩
          · rw [if_neg c7] at H
            have c7b0 : decide (0 < x5_1) = false := decide_eq_false c7
            clear c7
            by_cases c14 : x5_1 = 1
            · rw [if_pos c14] at H
              have c14b0 : (x5_1 == 1) = true := beq_iff_eq.mpr c14
              have c14b1 : (x5_1 != 1) = false := bne_eq_false_iff_eq.mpr c14
              clear c14
              by_cases c15 : (t245 == (decide (a0 ≤ 1099511627775))) = true
              · rw [if_pos c15] at H
                have c15b0 : (t245 == (decide (a0 ≤ 1099511627775))) = true := c15
                (try (have c15b1 : decide (t245 = (decide (a0 ≤ 1099511627775))) = true := by simpa using c15))
                (try (have c15b2 : (t245 == (decide (a0 ≤ 1099511627775))) = true := by simpa using c15))
                clear c15
                by_cases c16 : a0 ≤ 1099511627775
                · rw [if_pos c16] at H
                  have c16b0 : decide (a0 ≤ 1099511627775) = true := decide_eq_true c16
                  have c16z : t245 = true := by simpa [c16b0] using (by assumption : (t245 == (decide (a0 ≤ 1099511627775))) = true)
                  clear c16
                  by_cases c17 : t244 = x6_1
                  · rw [if_pos c17] at H
                    have c17b0 : (t244 == x6_1) = true := beq_iff_eq.mpr c17
                    have c17b1 : (t244 != x6_1) = false := bne_eq_false_iff_eq.mpr c17
                    clear c17
                    obtain rfl := Option.some.inj H
                    go_wp2
                    go_ret
                    exact ⟨by first | rfl | (simp [errW_none, errW_some] <;> rfl) | (simp [*, errW_none, errW_some] <;> rfl), by repeat (first | (with_reducible first | exact HB.out | apply below_alloc | apply pw_below_drewN | apply below_drew1) | exact HB.out)⟩
                  · rw [if_neg c17] at H
                    have c17b0 : (t244 == x6_1) = false := beq_eq_false_iff_ne.mpr c17
                    have c17b1 : (t244 != x6_1) = true := bne_iff_ne.mpr c17
                    obtain rfl := Option.some.inj H
                    go_wp2
                    go_ret
                    exact ⟨by first | rfl | (simp [errW_none, errW_some] <;> rfl) | (simp [*, errW_none, errW_some] <;> rfl), by repeat (first | (with_reducible first | exact HB.out | apply below_alloc | apply pw_below_drewN | apply below_drew1) | exact HB.out)⟩
                · rw [if_neg c16] at H
                  have c16b0 : decide (a0 ≤ 1099511627775) = false := decide_eq_false c16
                  have c16z : t245 = false := by simpa [c16b0] using (by assumption : (t245 == (decide (a0 ≤ 1099511627775))) = true)
                  clear c16
                  obtain rfl := Option.some.inj H
                  go_wp2
                  go_ret
                  exact ⟨by first | rfl | (simp [errW_none, errW_some] <;> rfl) | (simp [*, errW_none, errW_some] <;> rfl), by repeat (first | (with_reducible first | exact HB.out | apply below_alloc | apply pw_below_drewN | apply below_drew1) | exact HB.out)⟩
              · rw [if_neg c15] at H
                have c15b0 : (t245 == (decide (a0 ≤ 1099511627775))) = false := by simpa using c15
                (try (have c15b1 : decide (t245 = (decide (a0 ≤ 1099511627775))) = false := by simpa using c15))
                (try (have c15b2 : (t245 == (decide (a0 ≤ 1099511627775))) = false := by simpa using c15))
                (try (have c15b3 : ¬ (t245 = (decide (a0 ≤ 1099511627775))) := by simpa using c15))
                clear c15
                obtain rfl := Option.some.inj H
                go_wp2
                go_ret
                exact ⟨by first | rfl | (simp [errW_none, errW_some] <;> rfl) | (simp [*, errW_none, errW_some] <;> rfl), by repeat (first | (with_reducible first | exact HB.out | apply below_alloc | apply pw_below_drewN | apply below_drew1) | exact HB.out)⟩
            · rw [if_neg c14] at H
              have c14b0 : (x5_1 == 1) = false := beq_eq_false_iff_ne.mpr c14
              have c14b1 : (x5_1 != 1) = true := bne_iff_ne.mpr c14
              by_cases c18 : (t245 == false) = true
              · rw [if_pos c18] at H
                have c18b0 : (t245 == false) = true := c18
                have c18z : t245 = false := by revert c18b0; cases t245 <;> simp
                (try (have c18b1 : decide (t245 = false) = true := by simpa using c18))
                (try (have c18b2 : (t245 == false) = true := by simpa using c18))
                clear c18
                obtain rfl := Option.some.inj H
                go_wp2
                go_ret
                exact ⟨by first | rfl | (simp [errW_none, errW_some] <;> rfl) | (simp [*, errW_none, errW_some] <;> rfl), by repeat (first | (with_reducible first | exact HB.out | apply below_alloc | apply pw_below_drewN | apply below_drew1) | exact HB.out)⟩
              · rw [if_neg c18] at H
                have c18b0 : (t245 == false) = false := by simpa using c18
                have c18z : t245 = true := by revert c18b0; cases t245 <;> simp
                (try (have c18b1 : decide (t245 = false) = false := by simpa using c18))
                (try (have c18b2 : (t245 == false) = false := by simpa using c18))
                (try (have c18b3 : ¬ (t245 = false) := by simpa using c18))
                clear c18
                obtain rfl := Option.some.inj H
                go_wp2
                go_ret
                exact ⟨by first | rfl | (simp [errW_none, errW_some] <;> rfl) | (simp [*, errW_none, errW_some] <;> rfl), by repeat (first | (with_reducible first | exact HB.out | apply below_alloc | apply pw_below_drewN | apply below_drew1) | exact HB.out)⟩
        · rw [if_neg c6] at H
          have c6b0 : decide (x7_1 < 64) = false := decide_eq_false c6
          clear c6
          by_cases c19 : x5_1 = 1
          · rw [if_pos c19] at H
            have c19b0 : (x5_1 == 1) = true := beq_iff_eq.mpr c19
            have c19b1 : (x5_1 != 1) = false := bne_eq_false_iff_eq.mpr c19
            clear c19
            by_cases c20 : (t245 == (decide (a0 ≤ 1099511627775))) = true
            · rw [if_pos c20] at H
              have c20b0 : (t245 == (decide (a0 ≤ 1099511627775))) = true := c20
              (try (have c20b1 : decide (t245 = (decide (a0 ≤ 1099511627775))) = true := by simpa using c20))
              (try (have c20b2 : (t245 == (decide (a0 ≤ 1099511627775))) = true := by simpa using c20))
              clear c20
              by_cases c21 : a0 ≤ 1099511627775
              · rw [if_pos c21] at H
                have c21b0 : decide (a0 ≤ 1099511627775) = true := decide_eq_true c21
                have c21z : t245 = true := by simpa [c21b0] using (by assumption : (t245 == (decide (a0 ≤ 1099511627775))) = true)
                clear c21
                by_cases c22 : t244 = x6_1
                · rw [if_pos c22] at H
                  have c22b0 : (t244 == x6_1) = true := beq_iff_eq.mpr c22
                  have c22b1 : (t244 != x6_1) = false := bne_eq_false_iff_eq.mpr c22
                  clear c22
                  obtain rfl := Option.some.inj H
                  go_wp2
                  go_ret
                  exact ⟨by first | rfl | (simp [errW_none, errW_some] <;> rfl) | (simp [*, errW_none, errW_some] <;> rfl), by repeat (first | (with_reducible first | exact HB.out | apply below_alloc | apply pw_below_drewN | apply below_drew1) | exact HB.out)⟩
                · rw [if_neg c22] at H
                  have c22b0 : (t244 == x6_1) = false := beq_eq_false_iff_ne.mpr c22
                  have c22b1 : (t244 != x6_1) = true := bne_iff_ne.mpr c22
                  obtain rfl := Option.some.inj H
                  go_wp2
                  go_ret
                  exact ⟨by first | rfl | (simp [errW_none, errW_some] <;> rfl) | (simp [*, errW_none, errW_some] <;> rfl), by repeat (first | (with_reducible first | exact HB.out | apply below_alloc | apply pw_below_drewN | apply below_drew1) | exact HB.out)⟩
              · rw [if_neg c21] at H
                have c21b0 : decide (a0 ≤ 1099511627775) = false := decide_eq_false c21
                have c21z : t245 = false := by simpa [c21b0] using (by assumption : (t245 == (decide (a0 ≤ 1099511627775))) = true)
                clear c21
                obtain rfl := Option.some.inj H
                go_wp2
                go_ret
                exact ⟨by first | rfl | (simp [errW_none, errW_some] <;> rfl) | (simp [*, errW_none, errW_some] <;> rfl), by repeat (first | (with_reducible first | exact HB.out | apply below_alloc | apply pw_below_drewN | apply below_drew1) | exact HB.out)⟩
            · rw [if_neg c20] at H
              have c20b0 : (t245 == (decide (a0 ≤ 1099511627775))) = false := by simpa using c20
              (try (have c20b1 : decide (t245 = (decide (a0 ≤ 1099511627775))) = false := by simpa using c20))
              (try (have c20b2 : (t245 == (decide (a0 ≤ 1099511627775))) = false := by simpa using c20))
              (try (have c20b3 : ¬ (t245 = (decide (a0 ≤ 1099511627775))) := by simpa using c20))
              clear c20
              obtain rfl := Option.some.inj H
              go_wp2
              go_ret
              exact ⟨by first | rfl | (simp [errW_none, errW_some] <;> rfl) | (simp [*, errW_none, errW_some] <;> rfl), by repeat (first | (with_reducible first | exact HB.out | apply below_alloc | apply pw_below_drewN | apply below_drew1) | exact HB.out)⟩
          · rw [if_neg c19] at H
            have c19b0 : (x5_1 == 1) = false := beq_eq_false_iff_ne.mpr c19
            have c19b1 : (x5_1 != 1) = true := bne_iff_ne.mpr c19
            by_cases c23 : (t245 == false) = true
            · rw [if_pos c23] at H
              have c23b0 : (t245 == false) = true := c23
              have c23z : t245 = false := by revert c23b0; cases t245 <;> simp
              (try (have c23b1 : decide (t245 = false) = true := by simpa using c23))
              (try (have c23b2 : (t245 == false) = true := by simpa using c23))
              clear c23
              obtain rfl := Option.some.inj H
              go_wp2
              go_ret
              exact ⟨by first | rfl | (simp [errW_none, errW_some] <;> rfl) | (simp [*, errW_none, errW_some] <;> rfl), by repeat (first | (with_reducible first | exact HB.out | apply below_alloc | apply pw_below_drewN | apply below_drew1) | exact HB.out)⟩
            · rw [if_neg c23] at H
              have c23b0 : (t245 == false) = false := by simpa using c23
              have c23z : t245 = true := by revert c23b0; cases t245 <;> simp
              (try (have c23b1 : decide (t245 = false) = false := by simpa using c23))
              (try (have c23b2 : (t245 == false) = false := by simpa using c23))
              (try (have c23b3 : ¬ (t245 = false) := by simpa using c23))
              clear c23
              obtain rfl := Option.some.inj H
              go_wp2
              go_ret
              exact ⟨by first | rfl | (simp [errW_none, errW_some] <;> rfl) | (simp [*, errW_none, errW_some] <;> rfl), by repeat (first | (with_reducible first | exact HB.out | apply below_alloc | apply pw_below_drewN | apply below_drew1) | exact HB.out)⟩
  · replace c3 := Bool.eq_false_iff.mpr c3
    subst c3
    have H1 : (some false) = some r := by rw [if_neg (show ¬ (false = true) by decide)] at H; exact H
    clear H
    have H := H1
    clear H1
    obtain rfl := Option.some.inj H
    go_enter Tryd.func7, Tryd.ntmps7
    go_wp2_with (first | ((with_reducible refine gate_callee (f := 10) rfl ?_); refine goesL_ (some 9) rfl rfl Tryd.func10 (by kernel_rfl) rfl #[] rfl (by (try simp only [List.map_toArray, List.map_cons, List.map_nil]); first | done | rfl | (simp only [List.length_drop, List.length_take]; rfl)) ?_; (with_reducible refine (trefoillaw01_awake.calls k  false _ A2.out).mono ?_); rintro e w24 ⟨rfl, hb⟩; refine ⟨_, rfl, ?_⟩; have n0_ := Aside0.mk (below_step (by repeat (first | (with_reducible first | exact HB.out | apply below_alloc | apply pw_below_drewN | apply below_drew1) | exact HB.out)) hb); clear HB; have HB := n0_; clear n0_; (try clear hb); (try clear hb2); (try clear hk); (try clear hi)))
    go_ret
    exact ⟨by first | rfl | (simp [errW_none, errW_some] <;> rfl) | (simp [*, errW_none, errW_some] <;> rfl), by repeat (first | (with_reducible first | exact HB.out | apply below_alloc | apply pw_below_drewN | apply below_drew1) | exact HB.out)⟩

end Go.Proofs.YtgohgmjfanmbeaaDoor.Q
