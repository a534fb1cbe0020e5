-- PRINTED by print.py (a twelfth state) out of the translation. Not trusted: Lean checks it.
import Derived.Test.YtjbmogipdoiebaaDoorQx0
import Derived.Test.YtjbmogipdoiebaaDoorQx6
namespace Go.Proofs.YtjbmogipdoiebaaDoor.Q
open Go.RowKit Go.Proofs.YtjbmogipdoiebaaDoorW.PrintWords Go.Proofs.YtjbmogipdoiebaaDoorW.PrintLast Go.Proofs.YtjbmogipdoiebaaDoorW.PrintMore
attribute [local go_sem] max2_int min2_int max_two min_two max_three min_three max_four min_four   -- for this text's walks alone
set_option linter.unusedVariables false
set_option linter.unusedSimpArgs false

/-! ### trefoillaw15_EdfLess: function 6 -/
def trefoillaw15_EdfLess.j0 : Nat → List (S34) → Int → Bool → Option (Bool)
  | 0, _, _, _ => none
  | k + 1, x0, x1, x28 => if x28 = true then ((trefoillaw15_awake.f k).bind fun t224 => (some t224)) else (if 0 ≤ x1 then (if x1 ≤ (x0.length : Int) then ((trefoillaw15_Own.f (x0.take (x1 : Int).toNat)).bind fun t229 => (if 0 ≤ (wrap64 (x1 + 1)) then (if (wrap64 (x1 + 1)) ≤ (x0.length : Int) then ((some (x0.drop ((wrap64 (x1 + 1)) : Int).toNat : List (S34))).bind fun y232 => (if t229.length + y232.length < 3518437208883 then ((some (t229 ++ y232 : List (S34))).bind fun y236 => ((edf_Fits.f k y236).bind fun t239 => (if t239 = true then (if x1 < (x0.length : Int) then ((edf_Fits.f k (([(⟨(rd_T34 x0 x1).f0, (rd_T34 x0 x1).f1, (rd_T34 x0 x1).f2, (rd_T34 x0 x1).f3, (rd_T34 x0 x1).f4⟩ : S34)] : List (S34)))).bind fun t244 => (if t244 = true then ((some (([] : List (S34)) : List (S34))).bind fun y245 => (if y245.length < 3518437208883 then ((some (y245 ++ [(⟨(rd_T34 x0 x1).f0, (rd_T34 x0 x1).f1, (rd_T34 x0 x1).f2, (rd_T34 x0 x1).f3, (rd_T34 x0 x1).f4⟩ : S34)] : List (S34))).bind fun y249 => (if y249.length + y236.length < 3518437208883 then ((edf_Fits.f k (y249 ++ y236)).bind fun t255 => (some t255)) else (none))) else (none))) else (some false))) else (none)) else (some false)))) else (none))) else (none)) else (none))) else (none)) else (none))
def trefoillaw15_EdfLess.f (k : Nat) (l0 : List (S34)) (a1 : Int) : Option (Bool) := (trefoillaw15_awake.f k).bind fun t219 => (if t219 = true then (if (l0.length : Int) > 20 then (trefoillaw15_EdfLess.j0 k l0 a1 true) else ((trefoillaw15_Own.f l0).bind fun t220 => ((edf_Fits.f k t220).bind fun t223 => (if t223 = true then (if a1 < 0 then (trefoillaw15_EdfLess.j0 k l0 a1 true) else (trefoillaw15_EdfLess.j0 k l0 a1 (decide (a1 ≥ (l0.length : Int))))) else (trefoillaw15_EdfLess.j0 k l0 a1 true))))) else (trefoillaw15_EdfLess.j0 k l0 a1 true))
theorem trefoillaw15_EdfLess.mono_l : ∀ k, (∀ y0 y1 y2, LeO (trefoillaw15_EdfLess.j0 k y0 y1 y2) (trefoillaw15_EdfLess.j0 (k + 1) y0 y1 y2))
  | 0 => fun _ _ _ r h => by simp [trefoillaw15_EdfLess.j0] at h
  | k + 1 => by
    have ih0 := trefoillaw15_EdfLess.mono_l k
    · intro y0 y1 y2
      unfold trefoillaw15_EdfLess.j0
      repeat' first
      | (with_reducible exact ih0 _ _ _)
      | (with_reducible exact edf_Fits.mono _ _)
      | (with_reducible exact trefoillaw15_awake.mono _)
      | (with_reducible exact LeO.refl _)
      | (with_reducible exact LeO.none _)
      | (with_reducible refine LeO.ite ?_ ?_)
      | (with_reducible refine LeO.bind ?_ (fun _ => ?_))
      | exact ih0 _ _ _
      | exact edf_Fits.mono _ _
      | exact trefoillaw15_awake.mono _
      | exact LeO.none _
      | refine LeO.ite ?_ ?_
      | refine LeO.bind ?_ (fun _ => ?_)
theorem trefoillaw15_EdfLess.mono : ∀ a0 a1 k, LeO (trefoillaw15_EdfLess.f k a0 a1) (trefoillaw15_EdfLess.f (k + 1) a0 a1) := by
  intro a0 a1 k
  have ih0 := trefoillaw15_EdfLess.mono_l k
  unfold trefoillaw15_EdfLess.f
  repeat' first
      | (with_reducible exact ih0 _ _ _)
      | (with_reducible exact edf_Fits.mono _ _)
      | (with_reducible exact trefoillaw15_awake.mono _)
      | (with_reducible exact LeO.refl _)
      | (with_reducible exact LeO.none _)
      | (with_reducible refine LeO.ite ?_ ?_)
      | (with_reducible refine LeO.bind ?_ (fun _ => ?_))
      | exact ih0 _ _ _
      | exact edf_Fits.mono _ _
      | exact trefoillaw15_awake.mono _
      | exact LeO.none _
      | refine LeO.ite ?_ ?_
      | refine LeO.bind ?_ (fun _ => ?_)
def trefoillaw15_EdfLess.T3 : Bool × List (List Nat × List Nat) := (true, [([], []), ([], []), ([0, 1], [0, 1]), ([2], [2]), ([], []), ([], []), ([5], [5]), ([4, 6], [4, 6]), ([3, 7, 3], [3, 7]), ([8, 8, 0, 1, 2, 3, 4, 5, 6, 7, 8], [8])])
def trefoillaw15_EdfLess.B3 : List Nat := [0, 0, 3, 7, 0, 0, 32, 112, 255, 511]
theorem trefoillaw15_EdfLess.tab3 : rtab .any (opsOf Tryd.f6 3) = trefoillaw15_EdfLess.T3 := by kernel_rfl
theorem trefoillaw15_EdfLess.bits3 : waitsOk trefoillaw15_EdfLess.T3.2 trefoillaw15_EdfLess.B3 = true := by kernel_rfl
set_option maxHeartbeats 8000000 in
set_option maxRecDepth 100000 in
theorem trefoillaw15_EdfLess.calls (k : Nat) (A0 : Option Addr) (c0 : Nat) (l0 : List (S34)) (a1 : Int) (r : Bool) (w : World) (hr0 : Kd.C k34 w A0 l0.length l0) (hc0 : l0.length ≤ c0) (h : trefoillaw15_EdfLess.f k l0 a1 = some r) (hTab : TabOK w := by first | exact hTab | exact TabOK.below hTab HB.out | exact TabOK.drewN hTab _ | exact TabOK.below hTab (by repeat (first | (with_reducible first | exact HB.out | apply below_alloc | apply pw_below_drewN | apply below_drew1) | exact HB.out)) | (repeat (first | exact hTab | apply TabOK.drewN | apply TabOK.drew | apply TabOK.alloc); done)) :
    Calls Tryd.prog 6 #[.slice A0 l0.length c0, .int .i64 a1] w fun e w' => e = .returned (.bool r) ∧ Below w.heap.size w w' := by
  have hu34 := Tryd.underlying34
  have HR0 := Aside0.mk hr0
  have HC0 := Aside0.mk hc0
  clear hr0 hc0
  have HB := Aside0.mk (Below.refl w.heap.size w)
  have H : ((trefoillaw15_awake.f k).bind fun t219 => (if t219 = true then (if (l0.length : Int) > 20 then (trefoillaw15_EdfLess.j0 k l0 a1 true) else ((trefoillaw15_Own.f l0).bind fun t220 => ((edf_Fits.f k t220).bind fun t223 => (if t223 = true then (if a1 < 0 then (trefoillaw15_EdfLess.j0 k l0 a1 true) else (trefoillaw15_EdfLess.j0 k l0 a1 (decide (a1 ≥ (l0.length : Int))))) else (trefoillaw15_EdfLess.j0 k l0 a1 true))))) else (trefoillaw15_EdfLess.j0 k l0 a1 true))) = some r := h
  clear h
  have HC3 := Aside0.mk H
  clear H
  go_enter Tryd.func6, Tryd.ntmps6
  go_upto_region 1 with (fail)
  go_cut [28] (fun v28 wc => ∃ (kq : Nat) (x28_2 : Bool), v28 = .bool x28_2 ∧ Aside0 (trefoillaw15_EdfLess.j0 kq l0 a1 x28_2 = some r) ∧ Aside0 (kq ≤ k) ∧ Aside0 (Below w.heap.size w wc))
  case first =>
    have H := HC3.out
    clear HC3
    replace H := Option.bind_eq_some_iff.mp H
    obtain ⟨t219, A40, H⟩ := H
    replace H : (if t219 = true then (if (l0.length : Int) > 20 then (trefoillaw15_EdfLess.j0 k l0 a1 true) else ((trefoillaw15_Own.f l0).bind fun t220 => ((edf_Fits.f k t220).bind fun t223 => (if t223 = true then (if a1 < 0 then (trefoillaw15_EdfLess.j0 k l0 a1 true) else (trefoillaw15_EdfLess.j0 k l0 a1 (decide (a1 ≥ (l0.length : Int))))) else (trefoillaw15_EdfLess.j0 k l0 a1 true))))) else (trefoillaw15_EdfLess.j0 k l0 a1 true)) = some r := H
    have A4 := Aside0.mk A40
    clear A40
    by_cases c5 : t219 = true
    · subst c5
      have H1 : (if (l0.length : Int) > 20 then (trefoillaw15_EdfLess.j0 k l0 a1 true) else ((trefoillaw15_Own.f l0).bind fun t220 => ((edf_Fits.f k t220).bind fun t223 => (if t223 = true then (if a1 < 0 then (trefoillaw15_EdfLess.j0 k l0 a1 true) else (trefoillaw15_EdfLess.j0 k l0 a1 (decide (a1 ≥ (l0.length : Int))))) else (trefoillaw15_EdfLess.j0 k l0 a1 true))))) = some r := by rw [if_pos rfl] at H; exact H
      clear H
      have H := H1
      clear H1
      by_cases c6 : (l0.length : Int) > 20
      · rw [if_pos c6] at H
        have c6b0 : decide (20 < (l0.length : Int)) = true := decide_eq_true c6
        have c6b1 : decide (20 < l0.length) = true := decide_eq_true (by omega)
        clear c6
        (first | rw [c6b0] | (simp only [i64_w, i32_w]; rw [c6b0]) | skip)
        have H' := Aside0.mk H
        clear H
        go_wp2_with (first | ((with_reducible refine gate_callee (f := 9) rfl ?_); refine goesL_ (some 6) rfl rfl Tryd.func9 (by kernel_rfl) rfl #[] rfl (by (try simp only [List.map_toArray, List.map_cons, List.map_nil]); first | done | rfl | (simp only [List.length_drop, List.length_take]; rfl)) ?_; (with_reducible refine (trefoillaw15_awake.calls k  true _ A4.out).mono ?_); rintro e w7 ⟨rfl, hb⟩; refine ⟨_, rfl, ?_⟩; have n0_ := Aside0.mk (below_step (by repeat (first | (with_reducible first | exact HB.out | apply below_alloc | apply pw_below_drewN | apply below_drew1) | exact HB.out)) hb); clear HB; have HB := n0_; clear n0_; (try clear hb); (try clear hb2); (try clear hk); (try clear hi)))
        go_meet
        case rel => exact ⟨_, (true), (by first | rfl | (simp; done) | (simp [*]; done)), H', ⟨by first | omega | exact Nat.le_refl _⟩, ⟨by repeat (first | (with_reducible first | exact HB.out | apply below_alloc | apply pw_below_drewN | apply below_drew1) | exact HB.out)⟩⟩
      · rw [if_neg c6] at H
        have c6b0 : decide (20 < (l0.length : Int)) = false := decide_eq_false c6
        have c6b1 : decide (20 < l0.length) = false := decide_eq_false (by omega)
        clear c6
        (first | rw [c6b0] | (simp only [i64_w, i32_w]; rw [c6b0]) | skip)
        replace H := Option.bind_eq_some_iff.mp H
        obtain ⟨t220, A80, H⟩ := H
        replace H : ((edf_Fits.f k t220).bind fun t223 => (if t223 = true then (if a1 < 0 then (trefoillaw15_EdfLess.j0 k l0 a1 true) else (trefoillaw15_EdfLess.j0 k l0 a1 (decide (a1 ≥ (l0.length : Int))))) else (trefoillaw15_EdfLess.j0 k l0 a1 true))) = some r := H
        have A8 := Aside0.mk A80
        clear A80
        replace H := Option.bind_eq_some_iff.mp H
        obtain ⟨t223, A90, H⟩ := H
        replace H : (if t223 = true then (if a1 < 0 then (trefoillaw15_EdfLess.j0 k l0 a1 true) else (trefoillaw15_EdfLess.j0 k l0 a1 (decide (a1 ≥ (l0.length : Int))))) else (trefoillaw15_EdfLess.j0 k l0 a1 true)) = some r := H
        have A9 := Aside0.mk A90
        clear A90
        by_cases c10 : t223 = true
        · subst c10
          have H1 : (if a1 < 0 then (trefoillaw15_EdfLess.j0 k l0 a1 true) else (trefoillaw15_EdfLess.j0 k l0 a1 (decide (a1 ≥ (l0.length : Int))))) = some r := by rw [if_pos rfl] at H; exact H
          clear H
          have H := H1
          clear H1
          by_cases c11 : a1 < 0
          · rw [if_pos c11] at H
            have c11b0 : decide (a1 < 0) = true := decide_eq_true c11
            clear c11
            have H' := Aside0.mk H
            clear H
            go_wp2_with (first | ((with_reducible refine gate_callee (f := 9) rfl ?_); refine goesL_ (some 6) rfl rfl Tryd.func9 (by kernel_rfl) rfl #[] rfl (by (try simp only [List.map_toArray, List.map_cons, List.map_nil]); first | done | rfl | (simp only [List.length_drop, List.length_take]; rfl)) ?_; (with_reducible refine (trefoillaw15_awake.calls k  true _ A4.out).mono ?_); rintro e w12 ⟨rfl, hb⟩; refine ⟨_, rfl, ?_⟩; have n0_ := Aside0.mk (below_step (by repeat (first | (with_reducible first | exact HB.out | apply below_alloc | apply pw_below_drewN | apply below_drew1) | exact HB.out)) hb); clear HB; have HB := n0_; clear n0_; (try clear hb); (try clear hb2); (try clear hk); (try clear hi)) | (go_at_call 11; (with_reducible refine (trefoillaw15_Own.calls _ _ l0 t220 _ ?side1 ?side2 A8.out).mono ?_); (case side1 => repeat (first | exact (Kd.C_below HR0.out HB.out) | (with_reducible refine Kd.C_alloc ?_ _) | (with_reducible refine Kd.C_drewN ?_ _) | (with_reducible refine Kd.C_drew ?_))); (case side2 => exact HC0.out); rintro e w13 ⟨v221, rfl, ho0, hb⟩; have n0_ := Aside0.mk (Kd.R_lower ho0 (below_size (by repeat (first | (with_reducible first | exact HB.out | apply below_alloc | apply pw_below_drewN | apply below_drew1) | exact HB.out)))); have n1_ := Aside0.mk (below_step (by repeat (first | (with_reducible first | exact HB.out | apply below_alloc | apply pw_below_drewN | apply below_drew1) | exact HB.out)) hb); clear HB; have HO222 := n0_; have HB := n1_; clear n0_ n1_; (try clear hb); (try clear hb2); (try clear hk); (try clear hi); (try clear ho0); obtain ⟨Ao14, co14, eo14⟩ := Kd.R_slice HO222.out; subst eo14) | (go_at_call 19; (with_reducible refine (edf_Fits.calls k _ _ t220 true _ ?side1 ?side2 A9.out).mono ?_); (case side1 => repeat (first | exact (Kd.R_reads' HO222.out).2.2 | (with_reducible refine Kd.C_alloc ?_ _) | (with_reducible refine Kd.C_drewN ?_ _) | (with_reducible refine Kd.C_drew ?_))); (case side2 => exact (Kd.R_reads' HO222.out).2.1); rintro e w15 ⟨rfl, hb⟩; have n0_ := Aside0.mk (Kd.R_below (by (with_reducible repeat (first | apply Kd.R_alloc | apply Kd.R_drewN | apply Kd.R_drew)); exact HO222.out) hb); have n1_ := Aside0.mk (below_step (by repeat (first | (with_reducible first | exact HB.out | apply below_alloc | apply pw_below_drewN | apply below_drew1) | exact HB.out)) hb); clear HO222; clear HB; have HO222 := n0_; have HB := n1_; clear n0_ n1_; (try clear hb); (try clear hb2); (try clear hk); (try clear hi)))
            go_meet
            case rel => exact ⟨_, (true), (by first | rfl | (simp; done) | (simp [*]; done)), H', ⟨by first | omega | exact Nat.le_refl _⟩, ⟨by repeat (first | (with_reducible first | exact HB.out | apply below_alloc | apply pw_below_drewN | apply below_drew1) | exact HB.out)⟩⟩
          · rw [if_neg c11] at H
            have c11b0 : decide (a1 < 0) = false := decide_eq_false c11
            clear c11
            have H' := Aside0.mk H
            clear H
            go_wp2_with (first | ((with_reducible refine gate_callee (f := 9) rfl ?_); refine goesL_ (some 6) rfl rfl Tryd.func9 (by kernel_rfl) rfl #[] rfl (by (try simp only [List.map_toArray, List.map_cons, List.map_nil]); first | done | rfl | (simp only [List.length_drop, List.length_take]; rfl)) ?_; (with_reducible refine (trefoillaw15_awake.calls k  true _ A4.out).mono ?_); rintro e w16 ⟨rfl, hb⟩; refine ⟨_, rfl, ?_⟩; have n0_ := Aside0.mk (below_step (by repeat (first | (with_reducible first | exact HB.out | apply below_alloc | apply pw_below_drewN | apply below_drew1) | exact HB.out)) hb); clear HB; have HB := n0_; clear n0_; (try clear hb); (try clear hb2); (try clear hk); (try clear hi)) | (go_at_call 11; (with_reducible refine (trefoillaw15_Own.calls _ _ l0 t220 _ ?side1 ?side2 A8.out).mono ?_); (case side1 => repeat (first | exact (Kd.C_below HR0.out HB.out) | (with_reducible refine Kd.C_alloc ?_ _) | (with_reducible refine Kd.C_drewN ?_ _) | (with_reducible refine Kd.C_drew ?_))); (case side2 => exact HC0.out); rintro e w17 ⟨v221, rfl, ho0, hb⟩; have n0_ := Aside0.mk (Kd.R_lower ho0 (below_size (by repeat (first | (with_reducible first | exact HB.out | apply below_alloc | apply pw_below_drewN | apply below_drew1) | exact HB.out)))); have n1_ := Aside0.mk (below_step (by repeat (first | (with_reducible first | exact HB.out | apply below_alloc | apply pw_below_drewN | apply below_drew1) | exact HB.out)) hb); clear HB; have HO222 := n0_; have HB := n1_; clear n0_ n1_; (try clear hb); (try clear hb2); (try clear hk); (try clear hi); (try clear ho0); obtain ⟨Ao18, co18, eo18⟩ := Kd.R_slice HO222.out; subst eo18) | (go_at_call 19; (with_reducible refine (edf_Fits.calls k _ _ t220 true _ ?side1 ?side2 A9.out).mono ?_); (case side1 => repeat (first | exact (Kd.R_reads' HO222.out).2.2 | (with_reducible refine Kd.C_alloc ?_ _) | (with_reducible refine Kd.C_drewN ?_ _) | (with_reducible refine Kd.C_drew ?_))); (case side2 => exact (Kd.R_reads' HO222.out).2.1); rintro e w19 ⟨rfl, hb⟩; have n0_ := Aside0.mk (Kd.R_below (by (with_reducible repeat (first | apply Kd.R_alloc | apply Kd.R_drewN | apply Kd.R_drew)); exact HO222.out) hb); have n1_ := Aside0.mk (below_step (by repeat (first | (with_reducible first | exact HB.out | apply below_alloc | apply pw_below_drewN | apply below_drew1) | exact HB.out)) hb); clear HO222; clear HB; have HO222 := n0_; have HB := n1_; clear n0_ n1_; (try clear hb); (try clear hb2); (try clear hk); (try clear hi)))
            go_meet
            case rel => exact ⟨_, (decide (a1 ≥ (l0.length : Int))), (by first | rfl | (simp; done) | (simp [*]; done)), H', ⟨by first | omega | exact Nat.le_refl _⟩, ⟨by repeat (first | (with_reducible first | exact HB.out | apply below_alloc | apply pw_below_drewN | apply below_drew1) | exact HB.out)⟩⟩
        · replace c10 := Bool.eq_false_iff.mpr c10
          subst c10
          have H1 : (trefoillaw15_EdfLess.j0 k l0 a1 true) = some r := by rw [if_neg (show ¬ (false = true) by decide)] at H; exact H
          clear H
          have H := H1
          clear H1
          have H' := Aside0.mk H
          clear H
          go_wp2_with (first | ((with_reducible refine gate_callee (f := 9) rfl ?_); refine goesL_ (some 6) rfl rfl Tryd.func9 (by kernel_rfl) rfl #[] rfl (by (try simp only [List.map_toArray, List.map_cons, List.map_nil]); first | done | rfl | (simp only [List.length_drop, List.length_take]; rfl)) ?_; (with_reducible refine (trefoillaw15_awake.calls k  true _ A4.out).mono ?_); rintro e w20 ⟨rfl, hb⟩; refine ⟨_, rfl, ?_⟩; have n0_ := Aside0.mk (below_step (by repeat (first | (with_reducible first | exact HB.out | apply below_alloc | apply pw_below_drewN | apply below_drew1) | exact HB.out)) hb); clear HB; have HB := n0_; clear n0_; (try clear hb); (try clear hb2); (try clear hk); (try clear hi)) | (go_at_call 11; (with_reducible refine (trefoillaw15_Own.calls _ _ l0 t220 _ ?side1 ?side2 A8.out).mono ?_); (case side1 => repeat (first | exact (Kd.C_below HR0.out HB.out) | (with_reducible refine Kd.C_alloc ?_ _) | (with_reducible refine Kd.C_drewN ?_ _) | (with_reducible refine Kd.C_drew ?_))); (case side2 => exact HC0.out); rintro e w21 ⟨v221, rfl, ho0, hb⟩; have n0_ := Aside0.mk (Kd.R_lower ho0 (below_size (by repeat (first | (with_reducible first | exact HB.out | apply below_alloc | apply pw_below_drewN | apply below_drew1) | exact HB.out)))); have n1_ := Aside0.mk (below_step (by repeat (first | (with_reducible first | exact HB.out | apply below_alloc | apply pw_below_drewN | apply below_drew1) | exact HB.out)) hb); clear HB; have HO222 := n0_; have HB := n1_; clear n0_ n1_; (try clear hb); (try clear hb2); (try clear hk); (try clear hi); (try clear ho0); obtain ⟨Ao22, co22, eo22⟩ := Kd.R_slice HO222.out; subst eo22) | (go_at_call 19; (with_reducible refine (edf_Fits.calls k _ _ t220 false _ ?side1 ?side2 A9.out).mono ?_); (case side1 => repeat (first | exact (Kd.R_reads' HO222.out).2.2 | (with_reducible refine Kd.C_alloc ?_ _) | (with_reducible refine Kd.C_drewN ?_ _) | (with_reducible refine Kd.C_drew ?_))); (case side2 => exact (Kd.R_reads' HO222.out).2.1); rintro e w23 ⟨rfl, hb⟩; have n0_ := Aside0.mk (Kd.R_below (by (with_reducible repeat (first | apply Kd.R_alloc | apply Kd.R_drewN | apply Kd.R_drew)); exact HO222.out) hb); have n1_ := Aside0.mk (below_step (by repeat (first | (with_reducible first | exact HB.out | apply below_alloc | apply pw_below_drewN | apply below_drew1) | exact HB.out)) hb); clear HO222; clear HB; have HO222 := n0_; have HB := n1_; clear n0_ n1_; (try clear hb); (try clear hb2); (try clear hk); (try clear hi)))
          go_meet
          case rel => exact ⟨_, (true), (by first | rfl | (simp; done) | (simp [*]; done)), H', ⟨by first | omega | exact Nat.le_refl _⟩, ⟨by repeat (first | (with_reducible first | exact HB.out | apply below_alloc | apply pw_below_drewN | apply below_drew1) | exact HB.out)⟩⟩
    · replace c5 := Bool.eq_false_iff.mpr c5
      subst c5
      have H1 : (trefoillaw15_EdfLess.j0 k l0 a1 true) = some r := by rw [if_neg (show ¬ (false = true) by decide)] at H; exact H
      clear H
      have H := H1
      clear H1
      have H' := Aside0.mk H
      clear H
      go_wp2_with (first | ((with_reducible refine gate_callee (f := 9) rfl ?_); refine goesL_ (some 6) rfl rfl Tryd.func9 (by kernel_rfl) rfl #[] rfl (by (try simp only [List.map_toArray, List.map_cons, List.map_nil]); first | done | rfl | (simp only [List.length_drop, List.length_take]; rfl)) ?_; (with_reducible refine (trefoillaw15_awake.calls k  false _ A4.out).mono ?_); rintro e w24 ⟨rfl, hb⟩; refine ⟨_, rfl, ?_⟩; have n0_ := Aside0.mk (below_step (by repeat (first | (with_reducible first | exact HB.out | apply below_alloc | apply pw_below_drewN | apply below_drew1) | exact HB.out)) hb); clear HB; have HB := n0_; clear n0_; (try clear hb); (try clear hb2); (try clear hk); (try clear hi)))
      go_meet
      case rel => exact ⟨_, (true), (by first | rfl | (simp; done) | (simp [*]; done)), H', ⟨by first | omega | exact Nat.le_refl _⟩, ⟨by repeat (first | (with_reducible first | exact HB.out | apply below_alloc | apply pw_below_drewN | apply below_drew1) | exact HB.out)⟩⟩
  case rest =>
    clear HC3
    try clear c1
    try clear p2
    try clear c5
    try clear c6
    try clear c6b0
    try clear c6b1
    try clear c9
    try clear c10
    try clear c11
    try clear c11b0
    obtain ⟨kq, x28_2, rfl, HA, HJ2, HB⟩ := hcut
    cases kq with
    | zero => exact absurd HA.out (by simp [trefoillaw15_EdfLess.j0])
    | succ kj2 =>
      have H := HA.out
      clear HA
      simp only [trefoillaw15_EdfLess.j0] at H
      by_cases c25 : x28_2 = true
      · subst c25
        have H1 : ((trefoillaw15_awake.f kj2).bind fun t224 => (some t224)) = some r := by rw [if_pos rfl] at H; exact H
        clear H
        have H := H1
        clear H1
        replace H := Option.bind_eq_some_iff.mp H
        obtain ⟨t224, A260, H⟩ := H
        replace H : (some t224) = some r := H
        have A26 := Aside0.mk A260
        clear A260
        obtain rfl := Option.some.inj H
        go_wp2_with (first | ((with_reducible refine gate_callee (f := 9) rfl ?_); refine goesL_ (some 29) rfl rfl Tryd.func9 (by kernel_rfl) rfl #[] rfl (by (try simp only [List.map_toArray, List.map_cons, List.map_nil]); first | done | rfl | (simp only [List.length_drop, List.length_take]; rfl)) ?_; (with_reducible refine (trefoillaw15_awake.calls kj2  t224 _ A26.out).mono ?_); rintro e w27 ⟨rfl, hb⟩; refine ⟨_, rfl, ?_⟩; have n0_ := Aside0.mk (below_step (by repeat (first | (with_reducible first | exact HB.out | apply below_alloc | apply pw_below_drewN | apply below_drew1) | exact HB.out)) hb); clear HB; have HB := n0_; clear n0_; (try clear hb); (try clear hb2); (try clear hk); (try clear hi)))
        go_ret
        exact ⟨by first | rfl | (simp [errW_none, errW_some] <;> rfl) | (simp [*, errW_none, errW_some] <;> rfl), by repeat (first | (with_reducible first | exact HB.out | apply below_alloc | apply pw_below_drewN | apply below_drew1) | exact HB.out)⟩
      · replace c25 := Bool.eq_false_iff.mpr c25
        subst c25
        have H1 : (if 0 ≤ a1 then (if a1 ≤ (l0.length : Int) then ((trefoillaw15_Own.f (l0.take (a1 : Int).toNat)).bind fun t229 => (if 0 ≤ (wrap64 (a1 + 1)) then (if (wrap64 (a1 + 1)) ≤ (l0.length : Int) then ((some (l0.drop ((wrap64 (a1 + 1)) : Int).toNat : List (S34))).bind fun y232 => (if t229.length + y232.length < 3518437208883 then ((some (t229 ++ y232 : List (S34))).bind fun y236 => ((edf_Fits.f kj2 y236).bind fun t239 => (if t239 = true then (if a1 < (l0.length : Int) then ((edf_Fits.f kj2 (([(⟨(rd_T34 l0 a1).f0, (rd_T34 l0 a1).f1, (rd_T34 l0 a1).f2, (rd_T34 l0 a1).f3, (rd_T34 l0 a1).f4⟩ : S34)] : List (S34)))).bind fun t244 => (if t244 = true then ((some (([] : List (S34)) : List (S34))).bind fun y245 => (if y245.length < 3518437208883 then ((some (y245 ++ [(⟨(rd_T34 l0 a1).f0, (rd_T34 l0 a1).f1, (rd_T34 l0 a1).f2, (rd_T34 l0 a1).f3, (rd_T34 l0 a1).f4⟩ : S34)] : List (S34))).bind fun y249 => (if y249.length + y236.length < 3518437208883 then ((edf_Fits.f kj2 (y249 ++ y236)).bind fun t255 => (some t255)) else (none))) else (none))) else (some false))) else (none)) else (some false)))) else (none))) else (none)) else (none))) else (none)) else (none)) = some r := by rw [if_neg (show ¬ (false = true) by decide)] at H; exact H
        clear H
        have H := H1
        clear H1
        by_cases c28 : 0 ≤ a1
        · rw [if_pos c28] at H
          have c28b0 := eq_true c28
          have c28b1 : decide (0 ≤ a1) = true := decide_eq_true c28
          clear c28
          by_cases c29 : a1 ≤ (l0.length : Int)
          · rw [if_pos c29] at H
            have c29b0 := eq_true c29
            have c29b1 : decide (a1 ≤ (l0.length : Int)) = true := decide_eq_true c29
            clear c29
            obtain ⟨y225, hy225⟩ : ∃ y_ : List (S34), y_ = (l0.take (a1 : Int).toNat) := ⟨_, rfl⟩
            replace H : ((trefoillaw15_Own.f y225).bind fun t229 => (if 0 ≤ (wrap64 (a1 + 1)) then (if (wrap64 (a1 + 1)) ≤ (l0.length : Int) then ((some (l0.drop ((wrap64 (a1 + 1)) : Int).toNat : List (S34))).bind fun y232 => (if t229.length + y232.length < 3518437208883 then ((some (t229 ++ y232 : List (S34))).bind fun y236 => ((edf_Fits.f kj2 y236).bind fun t239 => (if t239 = true then (if a1 < (l0.length : Int) then ((edf_Fits.f kj2 (([(⟨(rd_T34 l0 a1).f0, (rd_T34 l0 a1).f1, (rd_T34 l0 a1).f2, (rd_T34 l0 a1).f3, (rd_T34 l0 a1).f4⟩ : S34)] : List (S34)))).bind fun t244 => (if t244 = true then ((some (([] : List (S34)) : List (S34))).bind fun y245 => (if y245.length < 3518437208883 then ((some (y245 ++ [(⟨(rd_T34 l0 a1).f0, (rd_T34 l0 a1).f1, (rd_T34 l0 a1).f2, (rd_T34 l0 a1).f3, (rd_T34 l0 a1).f4⟩ : S34)] : List (S34))).bind fun y249 => (if y249.length + y236.length < 3518437208883 then ((edf_Fits.f kj2 (y249 ++ y236)).bind fun t255 => (some t255)) else (none))) else (none))) else (some false))) else (none)) else (some false)))) else (none))) else (none)) else (none))) = some r := by first | (rw [hy225]; with_reducible exact H) | (have H2_ := (Option.bind_some _ _).symm.trans H; rw [hy225]; with_reducible exact H2_) | (have H2_ := (Option.bind_some _ _).symm.trans H; with_reducible exact H2_) | with_reducible exact H | (rw [hy225]; exact H) | exact H
            have Ny225 := Aside0.mk hy225
            clear hy225
            replace H := Option.bind_eq_some_iff.mp H
            obtain ⟨t229, A300, H⟩ := H
            replace H : (if 0 ≤ (wrap64 (a1 + 1)) then (if (wrap64 (a1 + 1)) ≤ (l0.length : Int) then ((some (l0.drop ((wrap64 (a1 + 1)) : Int).toNat : List (S34))).bind fun y232 => (if t229.length + y232.length < 3518437208883 then ((some (t229 ++ y232 : List (S34))).bind fun y236 => ((edf_Fits.f kj2 y236).bind fun t239 => (if t239 = true then (if a1 < (l0.length : Int) then ((edf_Fits.f kj2 (([(⟨(rd_T34 l0 a1).f0, (rd_T34 l0 a1).f1, (rd_T34 l0 a1).f2, (rd_T34 l0 a1).f3, (rd_T34 l0 a1).f4⟩ : S34)] : List (S34)))).bind fun t244 => (if t244 = true then ((some (([] : List (S34)) : List (S34))).bind fun y245 => (if y245.length < 3518437208883 then ((some (y245 ++ [(⟨(rd_T34 l0 a1).f0, (rd_T34 l0 a1).f1, (rd_T34 l0 a1).f2, (rd_T34 l0 a1).f3, (rd_T34 l0 a1).f4⟩ : S34)] : List (S34))).bind fun y249 => (if y249.length + y236.length < 3518437208883 then ((edf_Fits.f kj2 (y249 ++ y236)).bind fun t255 => (some t255)) else (none))) else (none))) else (some false))) else (none)) else (some false)))) else (none))) else (none)) else (none)) = some r := H
            have A30 := Aside0.mk A300
            clear A300
            obtain ⟨ji31, hji31⟩ : ∃ j_ : Int, (wrap64 (a1 + 1)) = j_ := ⟨_, rfl⟩
            replace H : (if 0 ≤ (ji31) then (if (ji31) ≤ (l0.length : Int) then ((some (l0.drop ((ji31) : Int).toNat : List (S34))).bind fun y232 => (if t229.length + y232.length < 3518437208883 then ((some (t229 ++ y232 : List (S34))).bind fun y236 => ((edf_Fits.f kj2 y236).bind fun t239 => (if t239 = true then (if a1 < (l0.length : Int) then ((edf_Fits.f kj2 (([(⟨(rd_T34 l0 a1).f0, (rd_T34 l0 a1).f1, (rd_T34 l0 a1).f2, (rd_T34 l0 a1).f3, (rd_T34 l0 a1).f4⟩ : S34)] : List (S34)))).bind fun t244 => (if t244 = true then ((some (([] : List (S34)) : List (S34))).bind fun y245 => (if y245.length < 3518437208883 then ((some (y245 ++ [(⟨(rd_T34 l0 a1).f0, (rd_T34 l0 a1).f1, (rd_T34 l0 a1).f2, (rd_T34 l0 a1).f3, (rd_T34 l0 a1).f4⟩ : S34)] : List (S34))).bind fun y249 => (if y249.length + y236.length < 3518437208883 then ((edf_Fits.f kj2 (y249 ++ y236)).bind fun t255 => (some t255)) else (none))) else (none))) else (some false))) else (none)) else (some false)))) else (none))) else (none)) else (none)) = some r := by first | (rw [hji31] at H; exact H) | (simp only [hji31] at H ⊢; exact H)
            (try rw [hji31] at A30)
            have hji31w : (IntKind.i64.wrap (a1 + 1)) = ji31 := (i64_w _).trans hji31
            by_cases c32 : 0 ≤ (ji31)
            · rw [if_pos c32] at H
              have c32b0 := eq_true c32
              have c32b1 : decide (0 ≤ (ji31)) = true := decide_eq_true c32
              clear c32
              by_cases c33 : (ji31) ≤ (l0.length : Int)
              · rw [if_pos c33] at H
                have c33b0 := eq_true c33
                have c33b1 : decide ((ji31) ≤ (l0.length : Int)) = true := decide_eq_true c33
                clear c33
                obtain ⟨y232, hy232⟩ : ∃ y_ : List (S34), y_ = (l0.drop ((ji31) : Int).toNat) := ⟨_, rfl⟩
                replace H : (if t229.length + y232.length < 3518437208883 then ((some (t229 ++ y232 : List (S34))).bind fun y236 => ((edf_Fits.f kj2 y236).bind fun t239 => (if t239 = true then (if a1 < (l0.length : Int) then ((edf_Fits.f kj2 (([(⟨(rd_T34 l0 a1).f0, (rd_T34 l0 a1).f1, (rd_T34 l0 a1).f2, (rd_T34 l0 a1).f3, (rd_T34 l0 a1).f4⟩ : S34)] : List (S34)))).bind fun t244 => (if t244 = true then ((some (([] : List (S34)) : List (S34))).bind fun y245 => (if y245.length < 3518437208883 then ((some (y245 ++ [(⟨(rd_T34 l0 a1).f0, (rd_T34 l0 a1).f1, (rd_T34 l0 a1).f2, (rd_T34 l0 a1).f3, (rd_T34 l0 a1).f4⟩ : S34)] : List (S34))).bind fun y249 => (if y249.length + y236.length < 3518437208883 then ((edf_Fits.f kj2 (y249 ++ y236)).bind fun t255 => (some t255)) else (none))) else (none))) else (some false))) else (none)) else (some false)))) else (none)) = some r := by first | (rw [hy232]; with_reducible exact H) | (have H2_ := (Option.bind_some _ _).symm.trans H; rw [hy232]; with_reducible exact H2_) | (have H2_ := (Option.bind_some _ _).symm.trans H; with_reducible exact H2_) | with_reducible exact H | (rw [hy232]; exact H) | exact H
                have Ny232 := Aside0.mk hy232
                clear hy232
                by_cases c34 : t229.length + y232.length < 3518437208883
                · rw [if_pos c34] at H
                  have LMc34 := Aside0.mk c34
                  clear c34
                  obtain ⟨y236, hy236⟩ : ∃ y_ : List (S34), y_ = (t229 ++ y232) := ⟨_, rfl⟩
                  replace H : ((edf_Fits.f kj2 y236).bind fun t239 => (if t239 = true then (if a1 < (l0.length : Int) then ((edf_Fits.f kj2 (([(⟨(rd_T34 l0 a1).f0, (rd_T34 l0 a1).f1, (rd_T34 l0 a1).f2, (rd_T34 l0 a1).f3, (rd_T34 l0 a1).f4⟩ : S34)] : List (S34)))).bind fun t244 => (if t244 = true then ((some (([] : List (S34)) : List (S34))).bind fun y245 => (if y245.length < 3518437208883 then ((some (y245 ++ [(⟨(rd_T34 l0 a1).f0, (rd_T34 l0 a1).f1, (rd_T34 l0 a1).f2, (rd_T34 l0 a1).f3, (rd_T34 l0 a1).f4⟩ : S34)] : List (S34))).bind fun y249 => (if y249.length + y236.length < 3518437208883 then ((edf_Fits.f kj2 (y249 ++ y236)).bind fun t255 => (some t255)) else (none))) else (none))) else (some false))) else (none)) else (some false))) = some r := by first | (rw [hy236]; with_reducible exact H) | (have H2_ := (Option.bind_some _ _).symm.trans H; rw [hy236]; with_reducible exact H2_) | (have H2_ := (Option.bind_some _ _).symm.trans H; with_reducible exact H2_) | with_reducible exact H | (rw [hy236]; exact H) | exact H
                  have Ny236 := Aside0.mk hy236
                  clear hy236
                  replace H := Option.bind_eq_some_iff.mp H
                  obtain ⟨t239, A350, H⟩ := H
                  replace H : (if t239 = true then (if a1 < (l0.length : Int) then ((edf_Fits.f kj2 (([(⟨(rd_T34 l0 a1).f0, (rd_T34 l0 a1).f1, (rd_T34 l0 a1).f2, (rd_T34 l0 a1).f3, (rd_T34 l0 a1).f4⟩ : S34)] : List (S34)))).bind fun t244 => (if t244 = true then ((some (([] : List (S34)) : List (S34))).bind fun y245 => (if y245.length < 3518437208883 then ((some (y245 ++ [(⟨(rd_T34 l0 a1).f0, (rd_T34 l0 a1).f1, (rd_T34 l0 a1).f2, (rd_T34 l0 a1).f3, (rd_T34 l0 a1).f4⟩ : S34)] : List (S34))).bind fun y249 => (if y249.length + y236.length < 3518437208883 then ((edf_Fits.f kj2 (y249 ++ y236)).bind fun t255 => (some t255)) else (none))) else (none))) else (some false))) else (none)) else (some false)) = some r := H
                  have A35 := Aside0.mk A350
                  clear A350
                  by_cases c36 : t239 = true
                  · subst c36
                    have H1 : (if a1 < (l0.length : Int) then ((edf_Fits.f kj2 (([(⟨(rd_T34 l0 a1).f0, (rd_T34 l0 a1).f1, (rd_T34 l0 a1).f2, (rd_T34 l0 a1).f3, (rd_T34 l0 a1).f4⟩ : S34)] : List (S34)))).bind fun t244 => (if t244 = true then ((some (([] : List (S34)) : List (S34))).bind fun y245 => (if y245.length < 3518437208883 then ((some (y245 ++ [(⟨(rd_T34 l0 a1).f0, (rd_T34 l0 a1).f1, (rd_T34 l0 a1).f2, (rd_T34 l0 a1).f3, (rd_T34 l0 a1).f4⟩ : S34)] : List (S34))).bind fun y249 => (if y249.length + y236.length < 3518437208883 then ((edf_Fits.f kj2 (y249 ++ y236)).bind fun t255 => (some t255)) else (none))) else (none))) else (some false))) else (none)) = some r := by rw [if_pos rfl] at H; exact H
                    clear H
                    have H := H1
                    clear H1
                    by_cases c37 : a1 < (l0.length : Int)
                    · rw [if_pos c37] at H
                      have c37b0 : decide (a1 < (l0.length : Int)) = true := decide_eq_true c37
                      clear c37
                      obtain ⟨y241, hy241⟩ : ∃ y_ : List (S34), y_ = (([(⟨(rd_T34 l0 a1).f0, (rd_T34 l0 a1).f1, (rd_T34 l0 a1).f2, (rd_T34 l0 a1).f3, (rd_T34 l0 a1).f4⟩ : S34)] : List (S34))) := ⟨_, rfl⟩
                      replace H : ((edf_Fits.f kj2 y241).bind fun t244 => (if t244 = true then ((some (([] : List (S34)) : List (S34))).bind fun y245 => (if y245.length < 3518437208883 then ((some (y245 ++ [(⟨(rd_T34 l0 a1).f0, (rd_T34 l0 a1).f1, (rd_T34 l0 a1).f2, (rd_T34 l0 a1).f3, (rd_T34 l0 a1).f4⟩ : S34)] : List (S34))).bind fun y249 => (if y249.length + y236.length < 3518437208883 then ((edf_Fits.f kj2 (y249 ++ y236)).bind fun t255 => (some t255)) else (none))) else (none))) else (some false))) = some r := by first | (rw [hy241]; with_reducible exact H) | (have H2_ := (Option.bind_some _ _).symm.trans H; rw [hy241]; with_reducible exact H2_) | (have H2_ := (Option.bind_some _ _).symm.trans H; with_reducible exact H2_) | with_reducible exact H | (rw [hy241]; exact H) | exact H
                      have Ny241 := Aside0.mk hy241
                      clear hy241
                      replace H := Option.bind_eq_some_iff.mp H
                      obtain ⟨t244, A380, H⟩ := H
                      replace H : (if t244 = true then ((some (([] : List (S34)) : List (S34))).bind fun y245 => (if y245.length < 3518437208883 then ((some (y245 ++ [(⟨(rd_T34 l0 a1).f0, (rd_T34 l0 a1).f1, (rd_T34 l0 a1).f2, (rd_T34 l0 a1).f3, (rd_T34 l0 a1).f4⟩ : S34)] : List (S34))).bind fun y249 => (if y249.length + y236.length < 3518437208883 then ((edf_Fits.f kj2 (y249 ++ y236)).bind fun t255 => (some t255)) else (none))) else (none))) else (some false)) = some r := H
                      have A38 := Aside0.mk A380
                      clear A380
                      by_cases c39 : t244 = true
                      · subst c39
                        have H1 : ((some (([] : List (S34)) : List (S34))).bind fun y245 => (if y245.length < 3518437208883 then ((some (y245 ++ [(⟨(rd_T34 l0 a1).f0, (rd_T34 l0 a1).f1, (rd_T34 l0 a1).f2, (rd_T34 l0 a1).f3, (rd_T34 l0 a1).f4⟩ : S34)] : List (S34))).bind fun y249 => (if y249.length + y236.length < 3518437208883 then ((edf_Fits.f kj2 (y249 ++ y236)).bind fun t255 => (some t255)) else (none))) else (none))) = some r := by rw [if_pos rfl] at H; exact H
                        clear H
                        have H := H1
                        clear H1
                        obtain ⟨y245, hy245⟩ : ∃ y_ : List (S34), y_ = (([] : List (S34))) := ⟨_, rfl⟩
                        replace H : (if y245.length < 3518437208883 then ((some (y245 ++ [(⟨(rd_T34 l0 a1).f0, (rd_T34 l0 a1).f1, (rd_T34 l0 a1).f2, (rd_T34 l0 a1).f3, (rd_T34 l0 a1).f4⟩ : S34)] : List (S34))).bind fun y249 => (if y249.length + y236.length < 3518437208883 then ((edf_Fits.f kj2 (y249 ++ y236)).bind fun t255 => (some t255)) else (none))) else (none)) = some r := by first | (rw [hy245]; with_reducible exact H) | (have H2_ := (Option.bind_some _ _).symm.trans H; rw [hy245]; with_reducible exact H2_) | (have H2_ := (Option.bind_some _ _).symm.trans H; with_reducible exact H2_) | with_reducible exact H | (rw [hy245]; exact H) | exact H
                        have Ny245 := Aside0.mk hy245
                        clear hy245
                        by_cases c40 : y245.length < 3518437208883
                        · rw [if_pos c40] at H
                          have LMc40 := Aside0.mk c40
                          clear c40
                          obtain ⟨y249, hy249⟩ : ∃ y_ : List (S34), y_ = (y245 ++ [(⟨(rd_T34 l0 a1).f0, (rd_T34 l0 a1).f1, (rd_T34 l0 a1).f2, (rd_T34 l0 a1).f3, (rd_T34 l0 a1).f4⟩ : S34)]) := ⟨_, rfl⟩
                          replace H : (if y249.length + y236.length < 3518437208883 then ((edf_Fits.f kj2 (y249 ++ y236)).bind fun t255 => (some t255)) else (none)) = some r := by first | (rw [hy249]; with_reducible exact H) | (have H2_ := (Option.bind_some _ _).symm.trans H; rw [hy249]; with_reducible exact H2_) | (have H2_ := (Option.bind_some _ _).symm.trans H; with_reducible exact H2_) | with_reducible exact H | (rw [hy249]; exact H) | exact H
                          have Ny249 := Aside0.mk hy249
                          clear hy249
                          by_cases c41 : y249.length + y236.length < 3518437208883
                          · rw [if_pos c41] at H
                            have LMc41 := Aside0.mk c41
                            clear c41
                            obtain ⟨y252, hy252⟩ : ∃ y_ : List (S34), y_ = (y249 ++ y236) := ⟨_, rfl⟩
                            replace H : ((edf_Fits.f kj2 y252).bind fun t255 => (some t255)) = some r := by first | (rw [hy252]; with_reducible exact H) | (have H2_ := (Option.bind_some _ _).symm.trans H; rw [hy252]; with_reducible exact H2_) | (have H2_ := (Option.bind_some _ _).symm.trans H; with_reducible exact H2_) | with_reducible exact H | (rw [hy252]; exact H) | exact H
                            have Ny252 := Aside0.mk hy252
                            clear hy252
                            replace H := Option.bind_eq_some_iff.mp H
                            obtain ⟨t255, A420, H⟩ := H
                            replace H : (some t255) = some r := H
                            have A42 := Aside0.mk A420
                            clear A420
                            obtain rfl := Option.some.inj H
                            try go_wp2
                            have n0_ := Aside0.mk (below_drew1 HB.out)
                            clear HB
                            have HB := n0_
                            clear n0_
                            have q44 : (a1 : Int) ≤ ((l0.length : Int) : Int) := of_decide_eq_true (by first | (with_reducible assumption) | assumption)
                            obtain ⟨i044, hi044, _, hsz44, _⟩ := info_parts info34
                            have hroom44 : l0.length ≤ c0 := HC0.out
                            have hC44 : Kd.C k34 _ A0 l0.length l0 := HR0.out
                            have hcut44 := cut_to (P := Tryd.prog) 22 34 .i64 Tryd.underlying22 hi044 A0 l0.length c0 a1 (of_decide_eq_true (by first | (with_reducible assumption) | assumption)) q44 hroom44
                            have hr44 := Kd.C_take (m := (a1 : Int).toNat) hC44 (by omega)
                            have hy44 : y225.length = (a1 : Int).toNat := (by rw [Ny225.out, List.length_take]; omega)
                            rw [← Ny225.out] at hr44
                            rw [← hy44] at hcut44
                            have HR228 := Aside0.mk hr44
                            have HC228 := Aside0.mk (show y225.length ≤ c0 from by omega)
                            clear hr44 hC44 hroom44 hi044 hsz44
                            have KY44 := Aside0.mk hy44
                            clear hy44
                            replace q44 := eq_true q44
                            have q45 : ((ji31) : Int) ≤ ((l0.length : Int) : Int) := of_decide_eq_true (by first | (with_reducible assumption) | assumption)
                            obtain ⟨i045, hi045, _, hsz45, _⟩ := info_parts info34
                            have hroom45 : l0.length ≤ c0 := HC0.out
                            have hC45 : Kd.C k34 _ A0 l0.length l0 := HR0.out
                            have q045 : (0 : Int) ≤ ((ji31) : Int) := of_decide_eq_true (by first | (with_reducible assumption) | assumption)
                            have hcut45 := cut_from (P := Tryd.prog) 22 34 .i64 Tryd.underlying22 hi045 5 hsz45 A0 l0.length c0 (ji31) q045 q45
                            have hr45 := Kd.C_drop (m := ((ji31) : Int).toNat) (c := c0) hC45 (by omega) hroom45
                            obtain ⟨A45, hA45⟩ : ∃ A1, A1 = (if c0 = ((ji31) : Int).toNat then A0 else (A0 : Option Addr).map (·.add (((ji31) : Int).toNat * 5))) := ⟨_, rfl⟩
                            obtain ⟨c45, hc45⟩ : ∃ c1, c1 = c0 - ((ji31) : Int).toNat := ⟨_, rfl⟩
                            have hy45 : y232.length = l0.length - ((ji31) : Int).toNat := (by rw [Ny232.out, List.length_drop] <;> omega)
                            rw [show (l0).drop ((ji31) : Int).toNat = y232 from Ny232.out.symm] at hr45
                            replace hr45 : Kd.C k34 _ A45 y232.length y232 := (by rw [hA45]; exact hr45)
                            rw [← hy45, ← hA45, ← hc45] at hcut45
                            have HR235 := Aside0.mk hr45
                            have HC235 := Aside0.mk (show y232.length ≤ c45 from by rw [hy45, hc45]; exact Nat.sub_le_sub_right hroom45 _)
                            clear hr45 hC45 hroom45 hi045 hsz45 hc45
                            have KY45 := Aside0.mk hy45
                            have KA45 := Aside0.mk hA45
                            clear hy45 hA45
                            replace q45 := eq_true q45
                            refine start_ (n := 10) (S := fun w' => True) (ds := []) #[false, false, false, false, false, false, false, false, false, false] (by kernel_rfl) rfl rfl trivial (fun hHeld => ?_); refine with_tabW trefoillaw15_EdfLess.tab3 trefoillaw15_EdfLess.bits3 (fun HT_ HW_ => ?_)
                            generalize wc.drew = w43 at HB HR228 HR235 hHeld ⊢
                            refine pure_ (i := 0) (N := some 30) (v := ?_) (a' := ?_) #[true, false, false, false, false, false, false, false, false, false] rfl rfl (any_of HT_.out (by kernel_rfl)) (fun _ _ _ h => h) (Or.inl ⟨by rfl, ?_⟩) ?_ ?_
                            rotate_left
                            · intro w'
                              go_simp
                              with_reducible rfl
                            rotate_left
                            · simp only [Act.put, List.setIfInBounds_toArray, List.set_cons_zero, List.set_cons_succ, i64_w, i32_w]
                              rfl
                            refine pure_ (i := 1) (N := some 31) (v := ?_) (a' := ?_) #[true, true, false, false, false, false, false, false, false, false] rfl rfl (any_of HT_.out (by kernel_rfl)) (fun _ _ _ h => h) (Or.inl ⟨by rfl, ?_⟩) ?_ ?_
                            rotate_left
                            · intro w'
                              go_simp
                              with_reducible rfl
                            rotate_left
                            · simp only [Act.put, List.setIfInBounds_toArray, List.set_cons_zero, List.set_cons_succ, i64_w, i32_w]
                              rfl
                            refine pure_ (i := 2) (N := some 32) (v := ?_) (a' := ?_) #[true, true, true, false, false, false, false, false, false, false] rfl rfl (any_of HT_.out (by kernel_rfl)) (fun _ _ _ h => h) (Or.inl ⟨by rfl, ?_⟩) ?_ ?_
                            rotate_left
                            · intro w'
                              go_simp
                              with_reducible rfl
                            rotate_left
                            · simp only [Act.put, List.setIfInBounds_toArray, List.set_cons_zero, List.set_cons_succ, i64_w, i32_w]
                              rfl
                            refine pure_ (i := 4) (N := some 34) (v := ?_) (a' := ?_) #[true, true, true, false, true, false, false, false, false, false] rfl rfl (any_of HT_.out (by kernel_rfl)) (fun _ _ _ h => h) (Or.inl ⟨by rfl, ?_⟩) ?_ ?_
                            rotate_left
                            · intro w'
                              go_simp
                              with_reducible rfl
                            rotate_left
                            · simp only [Act.put, List.setIfInBounds_toArray, List.set_cons_zero, List.set_cons_succ, i64_w, i32_w]
                              rfl
                            refine pure_ (i := 5) (N := some 35) (v := ?_) (a' := ?_) #[true, true, true, false, true, true, false, false, false, false] rfl rfl (any_of HT_.out (by kernel_rfl)) (fun _ _ _ h => h) (Or.inl ⟨by rfl, ?_⟩) ?_ ?_
                            rotate_left
                            · intro w'
                              go_simp
                              with_reducible rfl
                            rotate_left
                            · simp only [Act.put, List.setIfInBounds_toArray, List.set_cons_zero, List.set_cons_succ, i64_w, i32_w]
                              rfl
                            refine pure_ (i := 6) (N := some 36) (v := ?_) (a' := ?_) #[true, true, true, false, true, true, true, false, false, false] rfl rfl (any_of HT_.out (by kernel_rfl)) (fun _ _ _ h => h) (Or.inl ⟨by rfl, ?_⟩) ?_ ?_
                            rotate_left
                            · intro w'
                              go_simp
                              with_reducible rfl
                            rotate_left
                            · simp only [Act.put, List.setIfInBounds_toArray, List.set_cons_zero, List.set_cons_succ, i64_w, i32_w]
                              rfl
                            refine pure_ (i := 7) (N := some 37) (v := ?_) (a' := ?_) #[true, true, true, false, true, true, true, true, false, false] rfl rfl (any_of HT_.out (by kernel_rfl)) (fun _ _ _ h => h) (Or.inl ⟨by rfl, ?_⟩) ?_ ?_
                            rotate_left
                            · intro w'
                              go_simp
                              with_reducible rfl
                            rotate_left
                            · simp only [Act.put, List.setIfInBounds_toArray, List.set_cons_zero, List.set_cons_succ, i64_w, i32_w]
                              rfl
                            refine one_ (i := 3) (N := some 33) #[true, true, true, true, true, true, true, true, false, false] rfl rfl (one_of HT_.out (by kernel_rfl)) (by decide) (fun K hK => ?_)
                            refine goes_ Tryd.func11 (by kernel_rfl) rfl #[.slice A0 y225.length c0] (by rfl) rfl rfl (by (try simp only [List.map_toArray, List.map_cons, List.map_nil]); first | done | rfl | (simp only [List.length_drop, List.length_take]; rfl)) ?_
                            with_reducible refine (trefoillaw15_Own.calls _ _ y225 t229 _ ?side1 ?side2 A30.out).mono ?_
                            (case side1 => repeat (first | exact (Kd.C_below HR228.out HB.out) | (with_reducible refine Kd.C_alloc ?_ _) | (with_reducible refine Kd.C_drewN ?_ _) | (with_reducible refine Kd.C_drew ?_)))
                            (case side2 => exact HC228.out)
                            rintro e w46 ⟨v230, rfl, ho0, hb⟩
                            refine ⟨_, rfl, ?_⟩
                            have n0_ := Aside0.mk (Kd.R_lower ho0 (below_size (by repeat (first | (with_reducible first | exact HB.out | apply below_alloc | apply pw_below_drewN | apply below_drew1) | exact HB.out))))
                            have n1_ := Aside0.mk (below_step (by repeat (first | (with_reducible first | exact HB.out | apply below_alloc | apply pw_below_drewN | apply below_drew1) | exact HB.out)) hb)
                            clear HB
                            have HO231 := n0_
                            have HB := n1_
                            clear n0_ n1_
                            (try clear hb)
                            (try clear hb2)
                            (try clear hk)
                            (try clear hi)
                            (try clear ho0)
                            refine hK.out _ _ trivial (fun hHeld => ?_)
                            clear hK K
                            refine norm_ (a' := ?_) ?_ ?_
                            rotate_left
                            · show Act.put _ (some 33) _ = _
                              simp only [Act.put, List.setIfInBounds_toArray, List.set_cons_zero, List.set_cons_succ, i64_w, i32_w]
                              rfl
                            refine one_ (i := 8) (N := some 38) #[true, true, true, true, true, true, true, true, true, false] rfl rfl (one_of HT_.out (by kernel_rfl)) (by decide) (fun K hK => ?_)
                            refine Kd.R_append_rows_step k34 (w0 := w) w.heap.size (by rfl) (.tmp 33) (.tmp 37) 22 34 (.agg #[(.int .i64 0), (.int .i64 0), (.int .i64 0), (.int .i64 0), (.int .i64 0)]) 40 rfl Tryd.underlying22 info34 rfl (by decide) (by omega) v230 t229 y232 _ _ _ (fun _ => True) (fun _ => False) rfl rfl ?aO ?aR (fun _ _ h => h) (fun _ h => h.elim) ?aF ?aB ?aS ?aL ?_
                            (case aR => repeat (first | exact (Kd.C_below HR235.out HB.out) | (with_reducible refine Kd.C_alloc ?_ _) | (with_reducible refine Kd.C_drewN ?_ _) | (with_reducible refine Kd.C_drew ?_)))
                            (case aB => exact (by repeat (first | (with_reducible first | exact HB.out | apply below_alloc | apply pw_below_drewN | apply below_drew1) | exact HB.out)))
                            (case aF => exact (fun _ _ => trivial))
                            (case aO => exact (by (with_reducible repeat (first | apply Kd.R_alloc | apply Kd.R_drewN | apply Kd.R_drew)); exact HO231.out))
                            (case aS => exact (below_size (by repeat (first | (with_reducible first | exact HB.out | apply below_alloc | apply pw_below_drewN | apply below_drew1) | exact HB.out))))
                            (case aL => have := LMc34.out; omega)
                            intro v237 w47 ho hb hg hat
                            rw [← Ny236.out] at ho
                            have n0_ := Aside0.mk (hb)
                            have n1_ := Aside0.mk (ho)
                            clear HB
                            clear HO231
                            have HB := n0_
                            have HO238 := n1_
                            clear n0_ n1_
                            clear ho hb hg hat
                            refine hK.out _ _ trivial (fun hHeld => ?_)
                            clear hK K
                            refine norm_ (a' := ?_) ?_ ?_
                            rotate_left
                            · show Act.put _ (some 38) _ = _
                              simp only [Act.put, List.setIfInBounds_toArray, List.set_cons_zero, List.set_cons_succ, i64_w, i32_w]
                              rfl
                            refine pure_ (i := 9) (N := some 5) (v := ?_) (a' := ?_) #[true, true, true, true, true, true, true, true, true, true] rfl rfl (any_of HT_.out (by kernel_rfl)) (fun _ _ _ h => h) (Or.inl ⟨by rfl, ?_⟩) ?_ ?_
                            rotate_left
                            · intro w'
                              go_simp
                              with_reducible rfl
                            rotate_left
                            · simp only [Act.put, List.setIfInBounds_toArray, List.set_cons_zero, List.set_cons_succ, i64_w, i32_w]
                              rfl
                            refine done_ (done_of HT_.out (by kernel_rfl)) ?_
                            obtain ⟨Ao48, co48, eo48⟩ := Kd.R_slice HO238.out
                            subst eo48
                            try go_wp2_with (first | ((with_reducible refine gate_callee (f := 19) rfl ?_); refine goesL_ (some 40) rfl rfl Tryd.func19 (by kernel_rfl) rfl #[.slice Ao48 y236.length co48] rfl (by (try simp only [List.map_toArray, List.map_cons, List.map_nil]); first | done | rfl | (simp only [List.length_drop, List.length_take]; rfl)) ?_; (with_reducible refine (edf_Fits.calls kj2 _ _ y236 true _ ?side1 ?side2 A35.out).mono ?_); (case side1 => repeat (first | exact (Kd.R_reads' HO238.out).2.2 | (with_reducible refine Kd.C_alloc ?_ _) | (with_reducible refine Kd.C_drewN ?_ _) | (with_reducible refine Kd.C_drew ?_))); (case side2 => exact (Kd.R_reads' HO238.out).2.1); rintro e w49 ⟨rfl, hb⟩; refine ⟨_, rfl, ?_⟩; have n0_ := Aside0.mk (Kd.R_below (by (with_reducible repeat (first | apply Kd.R_alloc | apply Kd.R_drewN | apply Kd.R_drew)); exact HO238.out) hb); have n1_ := Aside0.mk (below_step (by repeat (first | (with_reducible first | exact HB.out | apply below_alloc | apply pw_below_drewN | apply below_drew1) | exact HB.out)) hb); clear HO238; clear HB; have HO238 := n0_; have HB := n1_; clear n0_ n1_; (try clear hb); (try clear hb2); (try clear hk); (try clear hi); have p240 : 0 ≤ (a1 : Int) := of_decide_eq_true (by first | (with_reducible assumption) | assumption); have q240 : a1 < (l0.length : Int) := of_decide_eq_true (by first | (with_reducible assumption) | assumption); obtain ⟨ad240, e240, hx240_0, hx240_1, hx240_2, hx240_3, hx240_4⟩ := at_T34 HR0.out a1 p240 q240; cases e240; replace hx240_0 := (HB.out.cell (World.block_lt_of_cell? w _ hx240_0)).trans hx240_0; replace hx240_1 := (HB.out.cell (World.block_lt_of_cell? w _ hx240_1)).trans hx240_1; replace hx240_2 := (HB.out.cell (World.block_lt_of_cell? w _ hx240_2)).trans hx240_2; replace hx240_3 := (HB.out.cell (World.block_lt_of_cell? w _ hx240_3)).trans hx240_3; replace hx240_4 := (HB.out.cell (World.block_lt_of_cell? w _ hx240_4)).trans hx240_4; replace p240 := eq_true p240; replace q240 := eq_true q240) | ((with_reducible refine gate_dst (N := 46) rfl ?_); (try (refine gate_guard (by rfl) ?_; dsimp only)); refine Kd.R_lit k34 _ 34 ?hg (N := 46) ?hd (xs := ([(⟨(rd_T34 l0 a1).f0, (rd_T34 l0 a1).f1, (rd_T34 l0 a1).f2, (rd_T34 l0 a1).f3, (rd_T34 l0 a1).f4⟩ : S34)] : List (S34))) (inner := [.int .i64 ((rd_T34 l0 a1).f0), .int .i64 ((rd_T34 l0 a1).f1), .int .i64 ((rd_T34 l0 a1).f2), .int .i64 ((rd_T34 l0 a1).f3), .int .i64 ((rd_T34 l0 a1).f4)]) (ok := fun _ => True) (okp := fun _ => True) ?hr ?hp (fun _ hk => hk) trivial (Below.refl _ _) (Nat.le_refl _) (by simp) ?_; (case hd => rfl); (case hg => rfl); (case hr => first | (go_simp; done) | (go_simp; rfl)); (case hp => exact (Reps.c5 (show Kd.M k34 _ _ _ (⟨(rd_T34 l0 a1).f0, (rd_T34 l0 a1).f1, (rd_T34 l0 a1).f2, (rd_T34 l0 a1).f3, (rd_T34 l0 a1).f4⟩ : S34) [.int .i64 ((rd_T34 l0 a1).f0), .int .i64 ((rd_T34 l0 a1).f1), .int .i64 ((rd_T34 l0 a1).f2), .int .i64 ((rd_T34 l0 a1).f3), .int .i64 ((rd_T34 l0 a1).f4)] from (k34_mkM _ _ _ (⟨(rd_T34 l0 a1).f0, (rd_T34 l0 a1).f1, (rd_T34 l0 a1).f2, (rd_T34 l0 a1).f3, (rd_T34 l0 a1).f4⟩ : S34) )) (Reps.none _ _))); intro v242 w50 ho51 hb hg_ hnew_; clear hg_ hnew_; (first | rw [← Ny241.out] at ho51 | (simp only [Int.reduceToNat] at ho51; rw [← Ny241.out] at ho51)); have n0_ := Aside0.mk (Kd.R_elder' (by (with_reducible repeat (first | apply Kd.R_alloc | apply Kd.R_drewN | apply Kd.R_drew)); exact HO238.out) (Kd.R_base ho51) hb); have n1_ := Aside0.mk (Kd.R_lower (Kd.R_new' ho51 (Kd.R_lt (by (with_reducible repeat (first | apply Kd.R_alloc | apply Kd.R_drewN | apply Kd.R_drew)); exact HO238.out))) (below_size (by repeat (first | (with_reducible first | exact HB.out | apply below_alloc | apply pw_below_drewN | apply below_drew1) | exact HB.out)))); have n2_ := Aside0.mk (below_step (by repeat (first | (with_reducible first | exact HB.out | apply below_alloc | apply pw_below_drewN | apply below_drew1) | exact HB.out)) hb); clear HO238; clear HB; have HO238 := n0_; have HO243 := n1_; have HB := n2_; clear n0_ n1_ n2_; clear hb ho51; obtain ⟨Ao52, co52, eo52⟩ := Kd.R_slice HO243.out; subst eo52) | (go_at_call 19; (with_reducible refine (edf_Fits.calls kj2 _ _ y241 true _ ?side1 ?side2 A38.out).mono ?_); (case side1 => repeat (first | exact (Kd.R_reads' HO243.out).2.2 | (with_reducible refine Kd.C_alloc ?_ _) | (with_reducible refine Kd.C_drewN ?_ _) | (with_reducible refine Kd.C_drew ?_))); (case side2 => exact (Kd.R_reads' HO243.out).2.1); rintro e w53 ⟨rfl, hb⟩; have n0_ := Aside0.mk (Kd.R_below (by (with_reducible repeat (first | apply Kd.R_alloc | apply Kd.R_drewN | apply Kd.R_drew)); exact HO238.out) hb); have n1_ := Aside0.mk (Kd.R_below (by (with_reducible repeat (first | apply Kd.R_alloc | apply Kd.R_drewN | apply Kd.R_drew)); exact HO243.out) hb); have n2_ := Aside0.mk (below_step (by repeat (first | (with_reducible first | exact HB.out | apply below_alloc | apply pw_below_drewN | apply below_drew1) | exact HB.out)) hb); clear HO238; clear HO243; clear HB; have HO238 := n0_; have HO243 := n1_; have HB := n2_; clear n0_ n1_ n2_; (try clear hb); (try clear hb2); (try clear hk); (try clear hi)) | ((with_reducible refine gate_dst (N := 50) rfl ?_); (try (refine gate_guard (by rfl) ?_; dsimp only)); refine Kd.R_lit k34 _ 34 ?hg (N := 50) ?hd (xs := ([] : List (S34))) (inner := []) (ok := fun _ => True) (okp := fun _ => True) ?hr ?hp (fun _ hk => hk) trivial (Below.refl _ _) (Nat.le_refl _) (by simp) ?_; (case hd => rfl); (case hg => rfl); (case hr => first | (go_simp; done) | (go_simp; rfl)); (case hp => exact (Reps.none _ _)); intro v246 w54 ho55 hb hg_ hnew_; clear hg_ hnew_; (first | rw [← Ny245.out] at ho55 | (simp only [Int.reduceToNat] at ho55; rw [← Ny245.out] at ho55)); have n0_ := Aside0.mk (Kd.R_elder' (by (with_reducible repeat (first | apply Kd.R_alloc | apply Kd.R_drewN | apply Kd.R_drew)); exact HO238.out) (Kd.R_base ho55) hb); have n1_ := Aside0.mk (Kd.R_elder' (by (with_reducible repeat (first | apply Kd.R_alloc | apply Kd.R_drewN | apply Kd.R_drew)); exact HO243.out) (Kd.R_base ho55) hb); have n2_ := Aside0.mk (Kd.R_lower (Kd.R_new' (Kd.R_new' ho55 (Kd.R_lt (by (with_reducible repeat (first | apply Kd.R_alloc | apply Kd.R_drewN | apply Kd.R_drew)); exact HO238.out))) (Kd.R_lt (by (with_reducible repeat (first | apply Kd.R_alloc | apply Kd.R_drewN | apply Kd.R_drew)); exact HO243.out))) (below_size (by repeat (first | (with_reducible first | exact HB.out | apply below_alloc | apply pw_below_drewN | apply below_drew1) | exact HB.out)))); have n3_ := Aside0.mk (below_step (by repeat (first | (with_reducible first | exact HB.out | apply below_alloc | apply pw_below_drewN | apply below_drew1) | exact HB.out)) hb); clear HO238; clear HO243; clear HB; have HO238 := n0_; have HO243 := n1_; have HO247 := n2_; have HB := n3_; clear n0_ n1_ n2_ n3_; clear hb ho55; have p248 : 0 ≤ (a1 : Int) := of_decide_eq_true (by first | (with_reducible assumption) | assumption); have q248 : a1 < (l0.length : Int) := of_decide_eq_true (by first | (with_reducible assumption) | assumption); obtain ⟨ad248, e248, hx248_0, hx248_1, hx248_2, hx248_3, hx248_4⟩ := at_T34 HR0.out a1 p248 q248; obtain rfl : ad240 = ad248 := (by injection e248); replace hx248_0 := (HB.out.cell (World.block_lt_of_cell? w _ hx248_0)).trans hx248_0; replace hx248_1 := (HB.out.cell (World.block_lt_of_cell? w _ hx248_1)).trans hx248_1; replace hx248_2 := (HB.out.cell (World.block_lt_of_cell? w _ hx248_2)).trans hx248_2; replace hx248_3 := (HB.out.cell (World.block_lt_of_cell? w _ hx248_3)).trans hx248_3; replace hx248_4 := (HB.out.cell (World.block_lt_of_cell? w _ hx248_4)).trans hx248_4; replace p248 := eq_true p248; replace q248 := eq_true q248) | ((with_reducible refine gate_builtin (b := .append) (xs := #[.tmp 50, .tmp 55]) rfl ?_); (try (refine gate_guard (by rfl) ?_; dsimp only)); at_builtin; refine Kd.R_append k34 (w0 := w) w.heap.size rfl (.tmp 50) (.tmp 55) 22 34 (.agg #[(.int .i64 0), (.int .i64 0), (.int .i64 0), (.int .i64 0), (.int .i64 0)]) 40 rfl Tryd.underlying22 info34 rfl (by decide) (by omega) v246 y245 (⟨(rd_T34 l0 a1).f0, (rd_T34 l0 a1).f1, (rd_T34 l0 a1).f2, (rd_T34 l0 a1).f3, (rd_T34 l0 a1).f4⟩ : S34) [.int .i64 ((rd_T34 l0 a1).f0), .int .i64 ((rd_T34 l0 a1).f1), .int .i64 ((rd_T34 l0 a1).f2), .int .i64 ((rd_T34 l0 a1).f3), .int .i64 ((rd_T34 l0 a1).f4)] (fun k_ => some k_ ≠ (.slice Ao48 y236.length co48 : Value).ownBlock ∧ some k_ ≠ (.slice Ao52 y241.length co52 : Value).ownBlock) (fun _ => False) rfl rfl ?aP (fun _ hk => hk.elim) ?aF ?aO ?aB ?aS ?aL ?_; (case aP => exact k34_mkM _ _ _ (⟨(rd_T34 l0 a1).f0, (rd_T34 l0 a1).f1, (rd_T34 l0 a1).f2, (rd_T34 l0 a1).f3, (rd_T34 l0 a1).f4⟩ : S34)); (case aB => exact (by repeat (first | (with_reducible first | exact HB.out | apply below_alloc | apply pw_below_drewN | apply below_drew1) | exact HB.out))); (case aF => exact (fun k_ hk => ⟨Kd.fresh' (Kd.R_lt (by (with_reducible repeat (first | apply Kd.R_alloc | apply Kd.R_drewN | apply Kd.R_drew)); exact HO238.out)) k_ hk, Kd.fresh' (Kd.R_lt (by (with_reducible repeat (first | apply Kd.R_alloc | apply Kd.R_drewN | apply Kd.R_drew)); exact HO243.out)) k_ hk⟩)); (case aO => exact (by (with_reducible repeat (first | apply Kd.R_alloc | apply Kd.R_drewN | apply Kd.R_drew)); exact Kd.R_mono HO247.out (fun _ hk => ⟨hk.1.2, hk.2⟩))); (case aS => exact (below_size (by repeat (first | (with_reducible first | exact HB.out | apply below_alloc | apply pw_below_drewN | apply below_drew1) | exact HB.out)))); (case aL => have := LMc40.out; omega); intro v250 w56 ho hb hg hat; rw [← Ny249.out] at ho; have n0_ := Aside0.mk (Kd.R_after (ok := (fun k_ => some k_ ≠ (.slice Ao52 y241.length co52 : Value).ownBlock)) (by (with_reducible repeat (first | apply Kd.R_alloc | apply Kd.R_drewN | apply Kd.R_drew)); exact Kd.R_mono HO238.out (fun _ hk => ⟨hk.1.2, hk.2⟩)) hg hat); have n1_ := Aside0.mk (Kd.R_after (ok := (fun k_ => some k_ ≠ (.slice Ao48 y236.length co48 : Value).ownBlock)) (by (with_reducible repeat (first | apply Kd.R_alloc | apply Kd.R_drewN | apply Kd.R_drew)); exact Kd.R_mono HO243.out (fun _ hk => ⟨hk.1.2, hk.2⟩)) hg hat); have n2_ := Aside0.mk (hb); have n3_ := Aside0.mk (ho); clear HO238; clear HO243; clear HB; clear HO247; have HO238 := n0_; have HO243 := n1_; have HB := n2_; have HO251 := n3_; clear n0_ n1_ n2_ n3_; clear ho hb hg hat) | ((with_reducible refine gate_builtin (b := .append) (xs := #[.tmp 56, .tmp 57]) rfl ?_); (try (refine gate_guard (by rfl) ?_; dsimp only)); at_builtin; refine Kd.R_append_rows k34 (w0 := w) w.heap.size rfl (.tmp 56) (.tmp 57) 22 34 (.agg #[(.int .i64 0), (.int .i64 0), (.int .i64 0), (.int .i64 0), (.int .i64 0)]) 40 rfl Tryd.underlying22 info34 rfl (by decide) (by omega) v250 y249 y236 _ _ _ (fun k_ => some k_ ≠ (.slice Ao48 y236.length co48 : Value).ownBlock ∧ some k_ ≠ (.slice Ao52 y241.length co52 : Value).ownBlock) (fun _ => False) rfl rfl ?aO ?aR (fun _ _ h => h) (fun _ h => h.elim) ?aF ?aB ?aS ?aL ?_; (case aR => repeat (first | exact (Kd.R_reads' HO238.out).2.2 | (with_reducible refine Kd.C_alloc ?_ _) | (with_reducible refine Kd.C_drewN ?_ _) | (with_reducible refine Kd.C_drew ?_))); (case aB => exact (by repeat (first | (with_reducible first | exact HB.out | apply below_alloc | apply pw_below_drewN | apply below_drew1) | exact HB.out))); (case aF => exact (fun k_ hk => ⟨Kd.fresh' (Kd.R_lt (by (with_reducible repeat (first | apply Kd.R_alloc | apply Kd.R_drewN | apply Kd.R_drew)); exact HO238.out)) k_ hk, Kd.fresh' (Kd.R_lt (by (with_reducible repeat (first | apply Kd.R_alloc | apply Kd.R_drewN | apply Kd.R_drew)); exact HO243.out)) k_ hk⟩)); (case aO => exact (by (with_reducible repeat (first | apply Kd.R_alloc | apply Kd.R_drewN | apply Kd.R_drew)); exact HO251.out)); (case aS => exact (below_size (by repeat (first | (with_reducible first | exact HB.out | apply below_alloc | apply pw_below_drewN | apply below_drew1) | exact HB.out)))); (case aL => have := LMc41.out; omega); intro v253 w57 ho hb hg hat; rw [← Ny252.out] at ho; have n0_ := Aside0.mk (Kd.R_after (ok := (fun k_ => some k_ ≠ (.slice Ao52 y241.length co52 : Value).ownBlock)) (by (with_reducible repeat (first | apply Kd.R_alloc | apply Kd.R_drewN | apply Kd.R_drew)); exact HO238.out) hg hat); have n1_ := Aside0.mk (Kd.R_after (ok := (fun k_ => some k_ ≠ (.slice Ao48 y236.length co48 : Value).ownBlock)) (by (with_reducible repeat (first | apply Kd.R_alloc | apply Kd.R_drewN | apply Kd.R_drew)); exact HO243.out) hg hat); have n2_ := Aside0.mk (hb); have n3_ := Aside0.mk (ho); clear HO238; clear HO243; clear HB; clear HO251; have HO238 := n0_; have HO243 := n1_; have HB := n2_; have HO254 := n3_; clear n0_ n1_ n2_ n3_; clear ho hb hg hat; obtain ⟨Ao58, co58, eo58⟩ := Kd.R_slice HO254.out; subst eo58) | (go_at_call 19; (with_reducible refine (edf_Fits.calls kj2 _ _ y252 t255 _ ?side1 ?side2 A42.out).mono ?_); (case side1 => repeat (first | exact (Kd.R_reads' HO254.out).2.2 | (with_reducible refine Kd.C_alloc ?_ _) | (with_reducible refine Kd.C_drewN ?_ _) | (with_reducible refine Kd.C_drew ?_))); (case side2 => exact (Kd.R_reads' HO254.out).2.1); rintro e w59 ⟨rfl, hb⟩; have n0_ := Aside0.mk (Kd.R_below (by (with_reducible repeat (first | apply Kd.R_alloc | apply Kd.R_drewN | apply Kd.R_drew)); exact HO238.out) hb); have n1_ := Aside0.mk (Kd.R_below (by (with_reducible repeat (first | apply Kd.R_alloc | apply Kd.R_drewN | apply Kd.R_drew)); exact HO243.out) hb); have n2_ := Aside0.mk (Kd.R_below (by (with_reducible repeat (first | apply Kd.R_alloc | apply Kd.R_drewN | apply Kd.R_drew)); exact HO254.out) hb); have n3_ := Aside0.mk (below_step (by repeat (first | (with_reducible first | exact HB.out | apply below_alloc | apply pw_below_drewN | apply below_drew1) | exact HB.out)) hb); clear HO238; clear HO243; clear HO254; clear HB; have HO238 := n0_; have HO243 := n1_; have HO254 := n2_; have HB := n3_; clear n0_ n1_ n2_ n3_; (try clear hb); (try clear hb2); (try clear hk); (try clear hi)))
                            go_ret
                            exact ⟨by first | rfl | (simp [errW_none, errW_some] <;> rfl) | (simp only [← hji31]; first | rfl | (simp [errW_none, errW_some] <;> rfl)) | (simp [*, errW_none, errW_some] <;> rfl), by repeat (first | (with_reducible first | exact HB.out | apply below_alloc | apply pw_below_drewN | apply below_drew1) | exact HB.out)⟩
                          · rw [if_neg c41] at H
                            exact absurd H (by simp)
                        · rw [if_neg c40] at H
                          exact absurd H (by simp)
                      · replace c39 := Bool.eq_false_iff.mpr c39
                        subst c39
                        have H1 : (some false) = some r := by rw [if_neg (show ¬ (false = true) by decide)] at H; exact H
                        clear H
                        have H := H1
                        clear H1
                        obtain rfl := Option.some.inj H
                        try go_wp2
                        have n0_ := Aside0.mk (below_drew1 HB.out)
                        clear HB
                        have HB := n0_
                        clear n0_
                        have q61 : (a1 : Int) ≤ ((l0.length : Int) : Int) := of_decide_eq_true (by first | (with_reducible assumption) | assumption)
                        obtain ⟨i061, hi061, _, hsz61, _⟩ := info_parts info34
                        have hroom61 : l0.length ≤ c0 := HC0.out
                        have hC61 : Kd.C k34 _ A0 l0.length l0 := HR0.out
                        have hcut61 := cut_to (P := Tryd.prog) 22 34 .i64 Tryd.underlying22 hi061 A0 l0.length c0 a1 (of_decide_eq_true (by first | (with_reducible assumption) | assumption)) q61 hroom61
                        have hr61 := Kd.C_take (m := (a1 : Int).toNat) hC61 (by omega)
                        have hy61 : y225.length = (a1 : Int).toNat := (by rw [Ny225.out, List.length_take]; omega)
                        rw [← Ny225.out] at hr61
                        rw [← hy61] at hcut61
                        have HR228 := Aside0.mk hr61
                        have HC228 := Aside0.mk (show y225.length ≤ c0 from by omega)
                        clear hr61 hC61 hroom61 hi061 hsz61
                        have KY61 := Aside0.mk hy61
                        clear hy61
                        replace q61 := eq_true q61
                        have q62 : ((ji31) : Int) ≤ ((l0.length : Int) : Int) := of_decide_eq_true (by first | (with_reducible assumption) | assumption)
                        obtain ⟨i062, hi062, _, hsz62, _⟩ := info_parts info34
                        have hroom62 : l0.length ≤ c0 := HC0.out
                        have hC62 : Kd.C k34 _ A0 l0.length l0 := HR0.out
                        have q062 : (0 : Int) ≤ ((ji31) : Int) := of_decide_eq_true (by first | (with_reducible assumption) | assumption)
                        have hcut62 := cut_from (P := Tryd.prog) 22 34 .i64 Tryd.underlying22 hi062 5 hsz62 A0 l0.length c0 (ji31) q062 q62
                        have hr62 := Kd.C_drop (m := ((ji31) : Int).toNat) (c := c0) hC62 (by omega) hroom62
                        obtain ⟨A62, hA62⟩ : ∃ A1, A1 = (if c0 = ((ji31) : Int).toNat then A0 else (A0 : Option Addr).map (·.add (((ji31) : Int).toNat * 5))) := ⟨_, rfl⟩
                        obtain ⟨c62, hc62⟩ : ∃ c1, c1 = c0 - ((ji31) : Int).toNat := ⟨_, rfl⟩
                        have hy62 : y232.length = l0.length - ((ji31) : Int).toNat := (by rw [Ny232.out, List.length_drop] <;> omega)
                        rw [show (l0).drop ((ji31) : Int).toNat = y232 from Ny232.out.symm] at hr62
                        replace hr62 : Kd.C k34 _ A62 y232.length y232 := (by rw [hA62]; exact hr62)
                        rw [← hy62, ← hA62, ← hc62] at hcut62
                        have HR235 := Aside0.mk hr62
                        have HC235 := Aside0.mk (show y232.length ≤ c62 from by rw [hy62, hc62]; exact Nat.sub_le_sub_right hroom62 _)
                        clear hr62 hC62 hroom62 hi062 hsz62 hc62
                        have KY62 := Aside0.mk hy62
                        have KA62 := Aside0.mk hA62
                        clear hy62 hA62
                        replace q62 := eq_true q62
                        refine start_ (n := 10) (S := fun w' => True) (ds := []) #[false, false, false, false, false, false, false, false, false, false] (by kernel_rfl) rfl rfl trivial (fun hHeld => ?_); refine with_tabW trefoillaw15_EdfLess.tab3 trefoillaw15_EdfLess.bits3 (fun HT_ HW_ => ?_)
                        generalize wc.drew = w60 at HB HR228 HR235 hHeld ⊢
                        refine pure_ (i := 0) (N := some 30) (v := ?_) (a' := ?_) #[true, false, false, false, false, false, false, false, false, false] rfl rfl (any_of HT_.out (by kernel_rfl)) (fun _ _ _ h => h) (Or.inl ⟨by rfl, ?_⟩) ?_ ?_
                        rotate_left
                        · intro w'
                          go_simp
                          with_reducible rfl
                        rotate_left
                        · simp only [Act.put, List.setIfInBounds_toArray, List.set_cons_zero, List.set_cons_succ, i64_w, i32_w]
                          rfl
                        refine pure_ (i := 1) (N := some 31) (v := ?_) (a' := ?_) #[true, true, false, false, false, false, false, false, false, false] rfl rfl (any_of HT_.out (by kernel_rfl)) (fun _ _ _ h => h) (Or.inl ⟨by rfl, ?_⟩) ?_ ?_
                        rotate_left
                        · intro w'
                          go_simp
                          with_reducible rfl
                        rotate_left
                        · simp only [Act.put, List.setIfInBounds_toArray, List.set_cons_zero, List.set_cons_succ, i64_w, i32_w]
                          rfl
                        refine pure_ (i := 2) (N := some 32) (v := ?_) (a' := ?_) #[true, true, true, false, false, false, false, false, false, false] rfl rfl (any_of HT_.out (by kernel_rfl)) (fun _ _ _ h => h) (Or.inl ⟨by rfl, ?_⟩) ?_ ?_
                        rotate_left
                        · intro w'
                          go_simp
                          with_reducible rfl
                        rotate_left
                        · simp only [Act.put, List.setIfInBounds_toArray, List.set_cons_zero, List.set_cons_succ, i64_w, i32_w]
                          rfl
                        refine pure_ (i := 4) (N := some 34) (v := ?_) (a' := ?_) #[true, true, true, false, true, false, false, false, false, false] rfl rfl (any_of HT_.out (by kernel_rfl)) (fun _ _ _ h => h) (Or.inl ⟨by rfl, ?_⟩) ?_ ?_
                        rotate_left
                        · intro w'
                          go_simp
                          with_reducible rfl
                        rotate_left
                        · simp only [Act.put, List.setIfInBounds_toArray, List.set_cons_zero, List.set_cons_succ, i64_w, i32_w]
                          rfl
                        refine pure_ (i := 5) (N := some 35) (v := ?_) (a' := ?_) #[true, true, true, false, true, true, false, false, false, false] rfl rfl (any_of HT_.out (by kernel_rfl)) (fun _ _ _ h => h) (Or.inl ⟨by rfl, ?_⟩) ?_ ?_
                        rotate_left
                        · intro w'
                          go_simp
                          with_reducible rfl
                        rotate_left
                        · simp only [Act.put, List.setIfInBounds_toArray, List.set_cons_zero, List.set_cons_succ, i64_w, i32_w]
                          rfl
                        refine pure_ (i := 6) (N := some 36) (v := ?_) (a' := ?_) #[true, true, true, false, true, true, true, false, false, false] rfl rfl (any_of HT_.out (by kernel_rfl)) (fun _ _ _ h => h) (Or.inl ⟨by rfl, ?_⟩) ?_ ?_
                        rotate_left
                        · intro w'
                          go_simp
                          with_reducible rfl
                        rotate_left
                        · simp only [Act.put, List.setIfInBounds_toArray, List.set_cons_zero, List.set_cons_succ, i64_w, i32_w]
                          rfl
                        refine pure_ (i := 7) (N := some 37) (v := ?_) (a' := ?_) #[true, true, true, false, true, true, true, true, false, false] rfl rfl (any_of HT_.out (by kernel_rfl)) (fun _ _ _ h => h) (Or.inl ⟨by rfl, ?_⟩) ?_ ?_
                        rotate_left
                        · intro w'
                          go_simp
                          with_reducible rfl
                        rotate_left
                        · simp only [Act.put, List.setIfInBounds_toArray, List.set_cons_zero, List.set_cons_succ, i64_w, i32_w]
                          rfl
                        refine one_ (i := 3) (N := some 33) #[true, true, true, true, true, true, true, true, false, false] rfl rfl (one_of HT_.out (by kernel_rfl)) (by decide) (fun K hK => ?_)
                        refine goes_ Tryd.func11 (by kernel_rfl) rfl #[.slice A0 y225.length c0] (by rfl) rfl rfl (by (try simp only [List.map_toArray, List.map_cons, List.map_nil]); first | done | rfl | (simp only [List.length_drop, List.length_take]; rfl)) ?_
                        with_reducible refine (trefoillaw15_Own.calls _ _ y225 t229 _ ?side1 ?side2 A30.out).mono ?_
                        (case side1 => repeat (first | exact (Kd.C_below HR228.out HB.out) | (with_reducible refine Kd.C_alloc ?_ _) | (with_reducible refine Kd.C_drewN ?_ _) | (with_reducible refine Kd.C_drew ?_)))
                        (case side2 => exact HC228.out)
                        rintro e w63 ⟨v230, rfl, ho0, hb⟩
                        refine ⟨_, rfl, ?_⟩
                        have n0_ := Aside0.mk (Kd.R_lower ho0 (below_size (by repeat (first | (with_reducible first | exact HB.out | apply below_alloc | apply pw_below_drewN | apply below_drew1) | exact HB.out))))
                        have n1_ := Aside0.mk (below_step (by repeat (first | (with_reducible first | exact HB.out | apply below_alloc | apply pw_below_drewN | apply below_drew1) | exact HB.out)) hb)
                        clear HB
                        have HO231 := n0_
                        have HB := n1_
                        clear n0_ n1_
                        (try clear hb)
                        (try clear hb2)
                        (try clear hk)
                        (try clear hi)
                        (try clear ho0)
                        refine hK.out _ _ trivial (fun hHeld => ?_)
                        clear hK K
                        refine norm_ (a' := ?_) ?_ ?_
                        rotate_left
                        · show Act.put _ (some 33) _ = _
                          simp only [Act.put, List.setIfInBounds_toArray, List.set_cons_zero, List.set_cons_succ, i64_w, i32_w]
                          rfl
                        refine one_ (i := 8) (N := some 38) #[true, true, true, true, true, true, true, true, true, false] rfl rfl (one_of HT_.out (by kernel_rfl)) (by decide) (fun K hK => ?_)
                        refine Kd.R_append_rows_step k34 (w0 := w) w.heap.size (by rfl) (.tmp 33) (.tmp 37) 22 34 (.agg #[(.int .i64 0), (.int .i64 0), (.int .i64 0), (.int .i64 0), (.int .i64 0)]) 40 rfl Tryd.underlying22 info34 rfl (by decide) (by omega) v230 t229 y232 _ _ _ (fun _ => True) (fun _ => False) rfl rfl ?aO ?aR (fun _ _ h => h) (fun _ h => h.elim) ?aF ?aB ?aS ?aL ?_
                        (case aR => repeat (first | exact (Kd.C_below HR235.out HB.out) | (with_reducible refine Kd.C_alloc ?_ _) | (with_reducible refine Kd.C_drewN ?_ _) | (with_reducible refine Kd.C_drew ?_)))
                        (case aB => exact (by repeat (first | (with_reducible first | exact HB.out | apply below_alloc | apply pw_below_drewN | apply below_drew1) | exact HB.out)))
                        (case aF => exact (fun _ _ => trivial))
                        (case aO => exact (by (with_reducible repeat (first | apply Kd.R_alloc | apply Kd.R_drewN | apply Kd.R_drew)); exact HO231.out))
                        (case aS => exact (below_size (by repeat (first | (with_reducible first | exact HB.out | apply below_alloc | apply pw_below_drewN | apply below_drew1) | exact HB.out))))
                        (case aL => have := LMc34.out; omega)
                        intro v237 w64 ho hb hg hat
                        rw [← Ny236.out] at ho
                        have n0_ := Aside0.mk (hb)
                        have n1_ := Aside0.mk (ho)
                        clear HB
                        clear HO231
                        have HB := n0_
                        have HO238 := n1_
                        clear n0_ n1_
                        clear ho hb hg hat
                        refine hK.out _ _ trivial (fun hHeld => ?_)
                        clear hK K
                        refine norm_ (a' := ?_) ?_ ?_
                        rotate_left
                        · show Act.put _ (some 38) _ = _
                          simp only [Act.put, List.setIfInBounds_toArray, List.set_cons_zero, List.set_cons_succ, i64_w, i32_w]
                          rfl
                        refine pure_ (i := 9) (N := some 5) (v := ?_) (a' := ?_) #[true, true, true, true, true, true, true, true, true, true] rfl rfl (any_of HT_.out (by kernel_rfl)) (fun _ _ _ h => h) (Or.inl ⟨by rfl, ?_⟩) ?_ ?_
                        rotate_left
                        · intro w'
                          go_simp
                          with_reducible rfl
                        rotate_left
                        · simp only [Act.put, List.setIfInBounds_toArray, List.set_cons_zero, List.set_cons_succ, i64_w, i32_w]
                          rfl
                        refine done_ (done_of HT_.out (by kernel_rfl)) ?_
                        obtain ⟨Ao65, co65, eo65⟩ := Kd.R_slice HO238.out
                        subst eo65
                        try go_wp2_with (first | ((with_reducible refine gate_callee (f := 19) rfl ?_); refine goesL_ (some 40) rfl rfl Tryd.func19 (by kernel_rfl) rfl #[.slice Ao65 y236.length co65] rfl (by (try simp only [List.map_toArray, List.map_cons, List.map_nil]); first | done | rfl | (simp only [List.length_drop, List.length_take]; rfl)) ?_; (with_reducible refine (edf_Fits.calls kj2 _ _ y236 true _ ?side1 ?side2 A35.out).mono ?_); (case side1 => repeat (first | exact (Kd.R_reads' HO238.out).2.2 | (with_reducible refine Kd.C_alloc ?_ _) | (with_reducible refine Kd.C_drewN ?_ _) | (with_reducible refine Kd.C_drew ?_))); (case side2 => exact (Kd.R_reads' HO238.out).2.1); rintro e w66 ⟨rfl, hb⟩; refine ⟨_, rfl, ?_⟩; have n0_ := Aside0.mk (Kd.R_below (by (with_reducible repeat (first | apply Kd.R_alloc | apply Kd.R_drewN | apply Kd.R_drew)); exact HO238.out) hb); have n1_ := Aside0.mk (below_step (by repeat (first | (with_reducible first | exact HB.out | apply below_alloc | apply pw_below_drewN | apply below_drew1) | exact HB.out)) hb); clear HO238; clear HB; have HO238 := n0_; have HB := n1_; clear n0_ n1_; (try clear hb); (try clear hb2); (try clear hk); (try clear hi); have p240 : 0 ≤ (a1 : Int) := of_decide_eq_true (by first | (with_reducible assumption) | assumption); have q240 : a1 < (l0.length : Int) := of_decide_eq_true (by first | (with_reducible assumption) | assumption); obtain ⟨ad240, e240, hx240_0, hx240_1, hx240_2, hx240_3, hx240_4⟩ := at_T34 HR0.out a1 p240 q240; cases e240; replace hx240_0 := (HB.out.cell (World.block_lt_of_cell? w _ hx240_0)).trans hx240_0; replace hx240_1 := (HB.out.cell (World.block_lt_of_cell? w _ hx240_1)).trans hx240_1; replace hx240_2 := (HB.out.cell (World.block_lt_of_cell? w _ hx240_2)).trans hx240_2; replace hx240_3 := (HB.out.cell (World.block_lt_of_cell? w _ hx240_3)).trans hx240_3; replace hx240_4 := (HB.out.cell (World.block_lt_of_cell? w _ hx240_4)).trans hx240_4; replace p240 := eq_true p240; replace q240 := eq_true q240) | ((with_reducible refine gate_dst (N := 46) rfl ?_); (try (refine gate_guard (by rfl) ?_; dsimp only)); refine Kd.R_lit k34 _ 34 ?hg (N := 46) ?hd (xs := ([(⟨(rd_T34 l0 a1).f0, (rd_T34 l0 a1).f1, (rd_T34 l0 a1).f2, (rd_T34 l0 a1).f3, (rd_T34 l0 a1).f4⟩ : S34)] : List (S34))) (inner := [.int .i64 ((rd_T34 l0 a1).f0), .int .i64 ((rd_T34 l0 a1).f1), .int .i64 ((rd_T34 l0 a1).f2), .int .i64 ((rd_T34 l0 a1).f3), .int .i64 ((rd_T34 l0 a1).f4)]) (ok := fun _ => True) (okp := fun _ => True) ?hr ?hp (fun _ hk => hk) trivial (Below.refl _ _) (Nat.le_refl _) (by simp) ?_; (case hd => rfl); (case hg => rfl); (case hr => first | (go_simp; done) | (go_simp; rfl)); (case hp => exact (Reps.c5 (show Kd.M k34 _ _ _ (⟨(rd_T34 l0 a1).f0, (rd_T34 l0 a1).f1, (rd_T34 l0 a1).f2, (rd_T34 l0 a1).f3, (rd_T34 l0 a1).f4⟩ : S34) [.int .i64 ((rd_T34 l0 a1).f0), .int .i64 ((rd_T34 l0 a1).f1), .int .i64 ((rd_T34 l0 a1).f2), .int .i64 ((rd_T34 l0 a1).f3), .int .i64 ((rd_T34 l0 a1).f4)] from (k34_mkM _ _ _ (⟨(rd_T34 l0 a1).f0, (rd_T34 l0 a1).f1, (rd_T34 l0 a1).f2, (rd_T34 l0 a1).f3, (rd_T34 l0 a1).f4⟩ : S34) )) (Reps.none _ _))); intro v242 w67 ho68 hb hg_ hnew_; clear hg_ hnew_; (first | rw [← Ny241.out] at ho68 | (simp only [Int.reduceToNat] at ho68; rw [← Ny241.out] at ho68)); have n0_ := Aside0.mk (Kd.R_elder' (by (with_reducible repeat (first | apply Kd.R_alloc | apply Kd.R_drewN | apply Kd.R_drew)); exact HO238.out) (Kd.R_base ho68) hb); have n1_ := Aside0.mk (Kd.R_lower (Kd.R_new' ho68 (Kd.R_lt (by (with_reducible repeat (first | apply Kd.R_alloc | apply Kd.R_drewN | apply Kd.R_drew)); exact HO238.out))) (below_size (by repeat (first | (with_reducible first | exact HB.out | apply below_alloc | apply pw_below_drewN | apply below_drew1) | exact HB.out)))); have n2_ := Aside0.mk (below_step (by repeat (first | (with_reducible first | exact HB.out | apply below_alloc | apply pw_below_drewN | apply below_drew1) | exact HB.out)) hb); clear HO238; clear HB; have HO238 := n0_; have HO243 := n1_; have HB := n2_; clear n0_ n1_ n2_; clear hb ho68; obtain ⟨Ao69, co69, eo69⟩ := Kd.R_slice HO243.out; subst eo69) | (go_at_call 19; (with_reducible refine (edf_Fits.calls kj2 _ _ y241 false _ ?side1 ?side2 A38.out).mono ?_); (case side1 => repeat (first | exact (Kd.R_reads' HO243.out).2.2 | (with_reducible refine Kd.C_alloc ?_ _) | (with_reducible refine Kd.C_drewN ?_ _) | (with_reducible refine Kd.C_drew ?_))); (case side2 => exact (Kd.R_reads' HO243.out).2.1); rintro e w70 ⟨rfl, hb⟩; have n0_ := Aside0.mk (Kd.R_below (by (with_reducible repeat (first | apply Kd.R_alloc | apply Kd.R_drewN | apply Kd.R_drew)); exact HO238.out) hb); have n1_ := Aside0.mk (Kd.R_below (by (with_reducible repeat (first | apply Kd.R_alloc | apply Kd.R_drewN | apply Kd.R_drew)); exact HO243.out) hb); have n2_ := Aside0.mk (below_step (by repeat (first | (with_reducible first | exact HB.out | apply below_alloc | apply pw_below_drewN | apply below_drew1) | exact HB.out)) hb); clear HO238; clear HO243; clear HB; have HO238 := n0_; have HO243 := n1_; have HB := n2_; clear n0_ n1_ n2_; (try clear hb); (try clear hb2); (try clear hk); (try clear hi)))
                        go_ret
                        exact ⟨by first | rfl | (simp [errW_none, errW_some] <;> rfl) | (simp only [← hji31]; first | rfl | (simp [errW_none, errW_some] <;> rfl)) | (simp [*, errW_none, errW_some] <;> rfl), by repeat (first | (with_reducible first | exact HB.out | apply below_alloc | apply pw_below_drewN | apply below_drew1) | exact HB.out)⟩
                    · rw [if_neg c37] at H
                      exact absurd H (by simp)
                  · replace c36 := Bool.eq_false_iff.mpr c36
                    subst c36
                    have H1 : (some false) = some r := by rw [if_neg (show ¬ (false = true) by decide)] at H; exact H
                    clear H
                    have H := H1
                    clear H1
                    obtain rfl := Option.some.inj H
                    try go_wp2
                    have n0_ := Aside0.mk (below_drew1 HB.out)
                    clear HB
                    have HB := n0_
                    clear n0_
                    have q72 : (a1 : Int) ≤ ((l0.length : Int) : Int) := of_decide_eq_true (by first | (with_reducible assumption) | assumption)
                    obtain ⟨i072, hi072, _, hsz72, _⟩ := info_parts info34
                    have hroom72 : l0.length ≤ c0 := HC0.out
                    have hC72 : Kd.C k34 _ A0 l0.length l0 := HR0.out
                    have hcut72 := cut_to (P := Tryd.prog) 22 34 .i64 Tryd.underlying22 hi072 A0 l0.length c0 a1 (of_decide_eq_true (by first | (with_reducible assumption) | assumption)) q72 hroom72
                    have hr72 := Kd.C_take (m := (a1 : Int).toNat) hC72 (by omega)
                    have hy72 : y225.length = (a1 : Int).toNat := (by rw [Ny225.out, List.length_take]; omega)
                    rw [← Ny225.out] at hr72
                    rw [← hy72] at hcut72
                    have HR228 := Aside0.mk hr72
                    have HC228 := Aside0.mk (show y225.length ≤ c0 from by omega)
                    clear hr72 hC72 hroom72 hi072 hsz72
                    have KY72 := Aside0.mk hy72
                    clear hy72
                    replace q72 := eq_true q72
                    have q73 : ((ji31) : Int) ≤ ((l0.length : Int) : Int) := of_decide_eq_true (by first | (with_reducible assumption) | assumption)
                    obtain ⟨i073, hi073, _, hsz73, _⟩ := info_parts info34
                    have hroom73 : l0.length ≤ c0 := HC0.out
                    have hC73 : Kd.C k34 _ A0 l0.length l0 := HR0.out
                    have q073 : (0 : Int) ≤ ((ji31) : Int) := of_decide_eq_true (by first | (with_reducible assumption) | assumption)
                    have hcut73 := cut_from (P := Tryd.prog) 22 34 .i64 Tryd.underlying22 hi073 5 hsz73 A0 l0.length c0 (ji31) q073 q73
                    have hr73 := Kd.C_drop (m := ((ji31) : Int).toNat) (c := c0) hC73 (by omega) hroom73
                    obtain ⟨A73, hA73⟩ : ∃ A1, A1 = (if c0 = ((ji31) : Int).toNat then A0 else (A0 : Option Addr).map (·.add (((ji31) : Int).toNat * 5))) := ⟨_, rfl⟩
                    obtain ⟨c73, hc73⟩ : ∃ c1, c1 = c0 - ((ji31) : Int).toNat := ⟨_, rfl⟩
                    have hy73 : y232.length = l0.length - ((ji31) : Int).toNat := (by rw [Ny232.out, List.length_drop] <;> omega)
                    rw [show (l0).drop ((ji31) : Int).toNat = y232 from Ny232.out.symm] at hr73
                    replace hr73 : Kd.C k34 _ A73 y232.length y232 := (by rw [hA73]; exact hr73)
                    rw [← hy73, ← hA73, ← hc73] at hcut73
                    have HR235 := Aside0.mk hr73
                    have HC235 := Aside0.mk (show y232.length ≤ c73 from by rw [hy73, hc73]; exact Nat.sub_le_sub_right hroom73 _)
                    clear hr73 hC73 hroom73 hi073 hsz73 hc73
                    have KY73 := Aside0.mk hy73
                    have KA73 := Aside0.mk hA73
                    clear hy73 hA73
                    replace q73 := eq_true q73
                    refine start_ (n := 10) (S := fun w' => True) (ds := []) #[false, false, false, false, false, false, false, false, false, false] (by kernel_rfl) rfl rfl trivial (fun hHeld => ?_); refine with_tabW trefoillaw15_EdfLess.tab3 trefoillaw15_EdfLess.bits3 (fun HT_ HW_ => ?_)
                    generalize wc.drew = w71 at HB HR228 HR235 hHeld ⊢
                    refine pure_ (i := 0) (N := some 30) (v := ?_) (a' := ?_) #[true, false, false, false, false, false, false, false, false, false] rfl rfl (any_of HT_.out (by kernel_rfl)) (fun _ _ _ h => h) (Or.inl ⟨by rfl, ?_⟩) ?_ ?_
                    rotate_left
                    · intro w'
                      go_simp
                      with_reducible rfl
                    rotate_left
                    · simp only [Act.put, List.setIfInBounds_toArray, List.set_cons_zero, List.set_cons_succ, i64_w, i32_w]
                      rfl
                    refine pure_ (i := 1) (N := some 31) (v := ?_) (a' := ?_) #[true, true, false, false, false, false, false, false, false, false] rfl rfl (any_of HT_.out (by kernel_rfl)) (fun _ _ _ h => h) (Or.inl ⟨by rfl, ?_⟩) ?_ ?_
                    rotate_left
                    · intro w'
                      go_simp
                      with_reducible rfl
                    rotate_left
                    · simp only [Act.put, List.setIfInBounds_toArray, List.set_cons_zero, List.set_cons_succ, i64_w, i32_w]
                      rfl
                    refine pure_ (i := 2) (N := some 32) (v := ?_) (a' := ?_) #[true, true, true, false, false, false, false, false, false, false] rfl rfl (any_of HT_.out (by kernel_rfl)) (fun _ _ _ h => h) (Or.inl ⟨by rfl, ?_⟩) ?_ ?_
                    rotate_left
                    · intro w'
                      go_simp
                      with_reducible rfl
                    rotate_left
                    · simp only [Act.put, List.setIfInBounds_toArray, List.set_cons_zero, List.set_cons_succ, i64_w, i32_w]
                      rfl
                    refine pure_ (i := 4) (N := some 34) (v := ?_) (a' := ?_) #[true, true, true, false, true, false, false, false, false, false] rfl rfl (any_of HT_.out (by kernel_rfl)) (fun _ _ _ h => h) (Or.inl ⟨by rfl, ?_⟩) ?_ ?_
                    rotate_left
                    · intro w'
                      go_simp
                      with_reducible rfl
                    rotate_left
                    · simp only [Act.put, List.setIfInBounds_toArray, List.set_cons_zero, List.set_cons_succ, i64_w, i32_w]
                      rfl
                    refine pure_ (i := 5) (N := some 35) (v := ?_) (a' := ?_) #[true, true, true, false, true, true, false, false, false, false] rfl rfl (any_of HT_.out (by kernel_rfl)) (fun _ _ _ h => h) (Or.inl ⟨by rfl, ?_⟩) ?_ ?_
                    rotate_left
                    · intro w'
                      go_simp
                      with_reducible rfl
                    rotate_left
                    · simp only [Act.put, List.setIfInBounds_toArray, List.set_cons_zero, List.set_cons_succ, i64_w, i32_w]
                      rfl
                    refine pure_ (i := 6) (N := some 36) (v := ?_) (a' := ?_) #[true, true, true, false, true, true, true, false, false, false] rfl rfl (any_of HT_.out (by kernel_rfl)) (fun _ _ _ h => h) (Or.inl ⟨by rfl, ?_⟩) ?_ ?_
                    rotate_left
                    · intro w'
                      go_simp
                      with_reducible rfl
                    rotate_left
                    · simp only [Act.put, List.setIfInBounds_toArray, List.set_cons_zero, List.set_cons_succ, i64_w, i32_w]
                      rfl
                    refine pure_ (i := 7) (N := some 37) (v := ?_) (a' := ?_) #[true, true, true, false, true, true, true, true, false, false] rfl rfl (any_of HT_.out (by kernel_rfl)) (fun _ _ _ h => h) (Or.inl ⟨by rfl, ?_⟩) ?_ ?_
                    rotate_left
                    · intro w'
                      go_simp
                      with_reducible rfl
                    rotate_left
                    · simp only [Act.put, List.setIfInBounds_toArray, List.set_cons_zero, List.set_cons_succ, i64_w, i32_w]
                      rfl
                    refine one_ (i := 3) (N := some 33) #[true, true, true, true, true, true, true, true, false, false] rfl rfl (one_of HT_.out (by kernel_rfl)) (by decide) (fun K hK => ?_)
                    refine goes_ Tryd.func11 (by kernel_rfl) rfl #[.slice A0 y225.length c0] (by rfl) rfl rfl (by (try simp only [List.map_toArray, List.map_cons, List.map_nil]); first | done | rfl | (simp only [List.length_drop, List.length_take]; rfl)) ?_
                    with_reducible refine (trefoillaw15_Own.calls _ _ y225 t229 _ ?side1 ?side2 A30.out).mono ?_
                    (case side1 => repeat (first | exact (Kd.C_below HR228.out HB.out) | (with_reducible refine Kd.C_alloc ?_ _) | (with_reducible refine Kd.C_drewN ?_ _) | (with_reducible refine Kd.C_drew ?_)))
                    (case side2 => exact HC228.out)
                    rintro e w74 ⟨v230, rfl, ho0, hb⟩
                    refine ⟨_, rfl, ?_⟩
                    have n0_ := Aside0.mk (Kd.R_lower ho0 (below_size (by repeat (first | (with_reducible first | exact HB.out | apply below_alloc | apply pw_below_drewN | apply below_drew1) | exact HB.out))))
                    have n1_ := Aside0.mk (below_step (by repeat (first | (with_reducible first | exact HB.out | apply below_alloc | apply pw_below_drewN | apply below_drew1) | exact HB.out)) hb)
                    clear HB
                    have HO231 := n0_
                    have HB := n1_
                    clear n0_ n1_
                    (try clear hb)
                    (try clear hb2)
                    (try clear hk)
                    (try clear hi)
                    (try clear ho0)
                    refine hK.out _ _ trivial (fun hHeld => ?_)
                    clear hK K
                    refine norm_ (a' := ?_) ?_ ?_
                    rotate_left
                    · show Act.put _ (some 33) _ = _
                      simp only [Act.put, List.setIfInBounds_toArray, List.set_cons_zero, List.set_cons_succ, i64_w, i32_w]
                      rfl
                    refine one_ (i := 8) (N := some 38) #[true, true, true, true, true, true, true, true, true, false] rfl rfl (one_of HT_.out (by kernel_rfl)) (by decide) (fun K hK => ?_)
                    refine Kd.R_append_rows_step k34 (w0 := w) w.heap.size (by rfl) (.tmp 33) (.tmp 37) 22 34 (.agg #[(.int .i64 0), (.int .i64 0), (.int .i64 0), (.int .i64 0), (.int .i64 0)]) 40 rfl Tryd.underlying22 info34 rfl (by decide) (by omega) v230 t229 y232 _ _ _ (fun _ => True) (fun _ => False) rfl rfl ?aO ?aR (fun _ _ h => h) (fun _ h => h.elim) ?aF ?aB ?aS ?aL ?_
                    (case aR => repeat (first | exact (Kd.C_below HR235.out HB.out) | (with_reducible refine Kd.C_alloc ?_ _) | (with_reducible refine Kd.C_drewN ?_ _) | (with_reducible refine Kd.C_drew ?_)))
                    (case aB => exact (by repeat (first | (with_reducible first | exact HB.out | apply below_alloc | apply pw_below_drewN | apply below_drew1) | exact HB.out)))
                    (case aF => exact (fun _ _ => trivial))
                    (case aO => exact (by (with_reducible repeat (first | apply Kd.R_alloc | apply Kd.R_drewN | apply Kd.R_drew)); exact HO231.out))
                    (case aS => exact (below_size (by repeat (first | (with_reducible first | exact HB.out | apply below_alloc | apply pw_below_drewN | apply below_drew1) | exact HB.out))))
                    (case aL => have := LMc34.out; omega)
                    intro v237 w75 ho hb hg hat
                    rw [← Ny236.out] at ho
                    have n0_ := Aside0.mk (hb)
                    have n1_ := Aside0.mk (ho)
                    clear HB
                    clear HO231
                    have HB := n0_
                    have HO238 := n1_
                    clear n0_ n1_
                    clear ho hb hg hat
                    refine hK.out _ _ trivial (fun hHeld => ?_)
                    clear hK K
                    refine norm_ (a' := ?_) ?_ ?_
                    rotate_left
                    · show Act.put _ (some 38) _ = _
                      simp only [Act.put, List.setIfInBounds_toArray, List.set_cons_zero, List.set_cons_succ, i64_w, i32_w]
                      rfl
                    refine pure_ (i := 9) (N := some 5) (v := ?_) (a' := ?_) #[true, true, true, true, true, true, true, true, true, true] rfl rfl (any_of HT_.out (by kernel_rfl)) (fun _ _ _ h => h) (Or.inl ⟨by rfl, ?_⟩) ?_ ?_
                    rotate_left
                    · intro w'
                      go_simp
                      with_reducible rfl
                    rotate_left
                    · simp only [Act.put, List.setIfInBounds_toArray, List.set_cons_zero, List.set_cons_succ, i64_w, i32_w]
                      rfl
                    refine done_ (done_of HT_.out (by kernel_rfl)) ?_
                    obtain ⟨Ao76, co76, eo76⟩ := Kd.R_slice HO238.out
                    subst eo76
                    try go_wp2_with (first | ((with_reducible refine gate_callee (f := 19) rfl ?_); refine goesL_ (some 40) rfl rfl Tryd.func19 (by kernel_rfl) rfl #[.slice Ao76 y236.length co76] rfl (by (try simp only [List.map_toArray, List.map_cons, List.map_nil]); first | done | rfl | (simp only [List.length_drop, List.length_take]; rfl)) ?_; (with_reducible refine (edf_Fits.calls kj2 _ _ y236 false _ ?side1 ?side2 A35.out).mono ?_); (case side1 => repeat (first | exact (Kd.R_reads' HO238.out).2.2 | (with_reducible refine Kd.C_alloc ?_ _) | (with_reducible refine Kd.C_drewN ?_ _) | (with_reducible refine Kd.C_drew ?_))); (case side2 => exact (Kd.R_reads' HO238.out).2.1); rintro e w77 ⟨rfl, hb⟩; refine ⟨_, rfl, ?_⟩; have n0_ := Aside0.mk (Kd.R_below (by (with_reducible repeat (first | apply Kd.R_alloc | apply Kd.R_drewN | apply Kd.R_drew)); exact HO238.out) hb); have n1_ := Aside0.mk (below_step (by repeat (first | (with_reducible first | exact HB.out | apply below_alloc | apply pw_below_drewN | apply below_drew1) | exact HB.out)) hb); clear HO238; clear HB; have HO238 := n0_; have HB := n1_; clear n0_ n1_; (try clear hb); (try clear hb2); (try clear hk); (try clear hi)))
                    go_ret
                    exact ⟨by first | rfl | (simp [errW_none, errW_some] <;> rfl) | (simp only [← hji31]; first | rfl | (simp [errW_none, errW_some] <;> rfl)) | (simp [*, errW_none, errW_some] <;> rfl), by repeat (first | (with_reducible first | exact HB.out | apply below_alloc | apply pw_below_drewN | apply below_drew1) | exact HB.out)⟩
                · rw [if_neg c34] at H
                  exact absurd H (by simp)
              · rw [if_neg c33] at H
                exact absurd H (by simp)
            · rw [if_neg c32] at H
              exact absurd H (by simp)
          · rw [if_neg c29] at H
            exact absurd H (by simp)
        · rw [if_neg c28] at H
          exact absurd H (by simp)

end Go.Proofs.YtjbmogipdoiebaaDoor.Q
