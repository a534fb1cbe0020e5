-- PRINTED by print.py (a twelfth state) out of the translation. Not trusted: Lean checks it.
import Derived.Test.YtdmgigicbppjkaaDoorQx0
import Derived.Test.YtdmgigicbppjkaaDoorQx1
import Derived.Test.YtdmgigicbppjkaaDoorQx5
import Derived.Test.YtdmgigicbppjkaaDoorQx7
import Derived.Test.YtdmgigicbppjkaaDoorQx9
import Derived.Test.YtdmgigicbppjkaaDoorQx14
namespace Go.Proofs.YtdmgigicbppjkaaDoor.Q
open Go.RowKit Go.Proofs.YtdmgigicbppjkaaDoorW.PrintWords Go.Proofs.YtdmgigicbppjkaaDoorW.PrintLast Go.Proofs.YtdmgigicbppjkaaDoorW.PrintMore
attribute [local go_sem] max2_int min2_int max_two min_two max_three min_three max_four min_four   -- for this text's walks alone
set_option linter.unusedVariables false
set_option linter.unusedSimpArgs false

/-! ### trefoillaw12_DequeOnce: function 5 -/
mutual
def trefoillaw12_DequeOnce.j0 : Nat → Int → List (S51) → Bool → Option (Bool)
  | 0, _, _, _ => none
  | k + 1, x0, x1, x25 => if x25 = true then ((trefoillaw12_awake.f k).bind fun t375 => (some t375)) else ((trefoillaw12_play.f k x0 x1).bind fun bt376 => ((deque_Items.f k bt376.1 bt376.2.1 bt376.2.2.1).bind fun t387 => (trefoillaw12_DequeOnce.l0 k bt376.2.2.2.1 bt376.2.2.2.2.1 bt376.2.2.2.2.2 t387 1 bt376.1 bt376.2.1 bt376.2.2.1)))
def trefoillaw12_DequeOnce.l0 : Nat → List Int → Int → Bool → List Int → Int → List Int → Int → Int → Option (Bool)
  | 0, _, _, _, _, _, _, _, _ => none
  | k + 1, x6, x7, x8, x9, x10, x387000, x387001, x387002 => if x10 ≤ x7 then (trefoillaw12_DequeOnce.l1 k x6 x7 x8 x9 x10 0 0 x387000 x387001 x387002) else (trefoillaw12_DequeOnce.l2 k x6 x7 x8 x9 1 x387000 x387001 x387002)
def trefoillaw12_DequeOnce.l1 : Nat → List Int → Int → Bool → List Int → Int → Int → Int → List Int → Int → Int → Option (Bool)
  | 0, _, _, _, _, _, _, _, _, _, _ => none
  | k + 1, x6, x7, x8, x9, x10, x11, x12, x387000, x387001, x387002 => if x12 < (x6.length : Int) then (if 0 ≤ x12 then (if (rd x6 x12) = x10 then (trefoillaw12_DequeOnce.l1 k x6 x7 x8 x9 x10 (wrap64 (x11 + 1)) (wrap64 (x12 + 1)) x387000 x387001 x387002) else (trefoillaw12_DequeOnce.l1 k x6 x7 x8 x9 x10 x11 (wrap64 (x12 + 1)) x387000 x387001 x387002)) else (none)) else ((trefoilref04_Has.f k x9 x10).bind fun t391 => (if t391 = true then (if (wrap64 (x11 + 1)) = 1 then (trefoillaw12_DequeOnce.l0 k x6 x7 x8 x9 (wrap64 (x10 + 1)) x387000 x387001 x387002) else (some false)) else (if x11 = 1 then (trefoillaw12_DequeOnce.l0 k x6 x7 x8 x9 (wrap64 (x10 + 1)) x387000 x387001 x387002) else (some false))))
def trefoillaw12_DequeOnce.l2 : Nat → List Int → Int → Bool → List Int → Int → List Int → Int → Int → Option (Bool)
  | 0, _, _, _, _, _, _, _, _ => none
  | k + 1, x6, x7, x8, x9, x13, x387000, x387001, x387002 => if x13 < (x9.length : Int) then (if 0 ≤ (wrap64 (x13 - 1)) then (if (wrap64 (x13 - 1)) < (x9.length : Int) then (if 0 ≤ x13 then (if (rd x9 (wrap64 (x13 - 1))) ≥ (rd x9 x13) then (some false) else (trefoillaw12_DequeOnce.l2 k x6 x7 x8 x9 (wrap64 (x13 + 1)) x387000 x387001 x387002)) else (none)) else (none)) else (none)) else (if x8 = true then (if (wrap64 ((x6.length : Int) + (x9.length : Int))) = x7 then ((deque_Check.f x387000 x387001 x387002).bind fun t394 => (some (t394 == 0))) else (none)) else (none))
end
def trefoillaw12_DequeOnce.f (k : Nat) (a0 : Int) (l1 : List (S51)) : Option (Bool) := (trefoillaw12_awake.f k).bind fun t373 => (if t373 = true then (if (l1.length : Int) > 200 then (trefoillaw12_DequeOnce.j0 k a0 l1 true) else ((trefoilref12_Size.f k a0).bind fun t374 => (trefoillaw12_DequeOnce.j0 k a0 l1 (!t374)))) else (trefoillaw12_DequeOnce.j0 k a0 l1 true))
theorem trefoillaw12_DequeOnce.mono_l : ∀ k, (∀ y0 y1 y2, LeO (trefoillaw12_DequeOnce.j0 k y0 y1 y2) (trefoillaw12_DequeOnce.j0 (k + 1) y0 y1 y2)) ∧ (∀ y0 y1 y2 y3 y4 y5 y6 y7, LeO (trefoillaw12_DequeOnce.l0 k y0 y1 y2 y3 y4 y5 y6 y7) (trefoillaw12_DequeOnce.l0 (k + 1) y0 y1 y2 y3 y4 y5 y6 y7)) ∧ (∀ y0 y1 y2 y3 y4 y5 y6 y7 y8 y9, LeO (trefoillaw12_DequeOnce.l1 k y0 y1 y2 y3 y4 y5 y6 y7 y8 y9) (trefoillaw12_DequeOnce.l1 (k + 1) y0 y1 y2 y3 y4 y5 y6 y7 y8 y9)) ∧ (∀ y0 y1 y2 y3 y4 y5 y6 y7, LeO (trefoillaw12_DequeOnce.l2 k y0 y1 y2 y3 y4 y5 y6 y7) (trefoillaw12_DequeOnce.l2 (k + 1) y0 y1 y2 y3 y4 y5 y6 y7))
  | 0 => ⟨fun _ _ _ r h => by simp [trefoillaw12_DequeOnce.j0] at h, fun _ _ _ _ _ _ _ _ r h => by simp [trefoillaw12_DequeOnce.l0] at h, fun _ _ _ _ _ _ _ _ _ _ r h => by simp [trefoillaw12_DequeOnce.l1] at h, fun _ _ _ _ _ _ _ _ r h => by simp [trefoillaw12_DequeOnce.l2] at h⟩
  | k + 1 => by
    obtain ⟨ih0, ih1, ih2, ih3⟩ := trefoillaw12_DequeOnce.mono_l k
    refine ⟨?_, ?_, ?_, ?_⟩
    · intro y0 y1 y2
      unfold trefoillaw12_DequeOnce.j0
      repeat' first
      | (with_reducible exact ih0 _ _ _)
      | (with_reducible exact ih1 _ _ _ _ _ _ _ _)
      | (with_reducible exact ih2 _ _ _ _ _ _ _ _ _ _)
      | (with_reducible exact ih3 _ _ _ _ _ _ _ _)
      | (with_reducible exact deque_Items.mono _ _ _ _)
      | (with_reducible exact trefoillaw12_awake.mono _)
      | (with_reducible exact trefoillaw12_play.mono _ _ _)
      | (with_reducible exact trefoilref04_Has.mono _ _ _)
      | (with_reducible exact trefoilref12_Size.mono _ _)
      | (with_reducible exact LeO.refl _)
      | (with_reducible exact LeO.none _)
      | (with_reducible refine LeO.ite ?_ ?_)
      | (with_reducible refine LeO.bind ?_ (fun _ => ?_))
      | exact ih0 _ _ _
      | exact ih1 _ _ _ _ _ _ _ _
      | exact ih2 _ _ _ _ _ _ _ _ _ _
      | exact ih3 _ _ _ _ _ _ _ _
      | exact deque_Items.mono _ _ _ _
      | exact trefoillaw12_awake.mono _
      | exact trefoillaw12_play.mono _ _ _
      | exact trefoilref04_Has.mono _ _ _
      | exact trefoilref12_Size.mono _ _
      | exact LeO.none _
      | refine LeO.ite ?_ ?_
      | refine LeO.bind ?_ (fun _ => ?_)
    · intro y0 y1 y2 y3 y4 y5 y6 y7
      unfold trefoillaw12_DequeOnce.l0
      repeat' first
      | (with_reducible exact ih0 _ _ _)
      | (with_reducible exact ih1 _ _ _ _ _ _ _ _)
      | (with_reducible exact ih2 _ _ _ _ _ _ _ _ _ _)
      | (with_reducible exact ih3 _ _ _ _ _ _ _ _)
      | (with_reducible exact deque_Items.mono _ _ _ _)
      | (with_reducible exact trefoillaw12_awake.mono _)
      | (with_reducible exact trefoillaw12_play.mono _ _ _)
      | (with_reducible exact trefoilref04_Has.mono _ _ _)
      | (with_reducible exact trefoilref12_Size.mono _ _)
      | (with_reducible exact LeO.refl _)
      | (with_reducible exact LeO.none _)
      | (with_reducible refine LeO.ite ?_ ?_)
      | (with_reducible refine LeO.bind ?_ (fun _ => ?_))
      | exact ih0 _ _ _
      | exact ih1 _ _ _ _ _ _ _ _
      | exact ih2 _ _ _ _ _ _ _ _ _ _
      | exact ih3 _ _ _ _ _ _ _ _
      | exact deque_Items.mono _ _ _ _
      | exact trefoillaw12_awake.mono _
      | exact trefoillaw12_play.mono _ _ _
      | exact trefoilref04_Has.mono _ _ _
      | exact trefoilref12_Size.mono _ _
      | exact LeO.none _
      | refine LeO.ite ?_ ?_
      | refine LeO.bind ?_ (fun _ => ?_)
    · intro y0 y1 y2 y3 y4 y5 y6 y7 y8 y9
      unfold trefoillaw12_DequeOnce.l1
      repeat' first
      | (with_reducible exact ih0 _ _ _)
      | (with_reducible exact ih1 _ _ _ _ _ _ _ _)
      | (with_reducible exact ih2 _ _ _ _ _ _ _ _ _ _)
      | (with_reducible exact ih3 _ _ _ _ _ _ _ _)
      | (with_reducible exact deque_Items.mono _ _ _ _)
      | (with_reducible exact trefoillaw12_awake.mono _)
      | (with_reducible exact trefoillaw12_play.mono _ _ _)
      | (with_reducible exact trefoilref04_Has.mono _ _ _)
      | (with_reducible exact trefoilref12_Size.mono _ _)
      | (with_reducible exact LeO.refl _)
      | (with_reducible exact LeO.none _)
      | (with_reducible refine LeO.ite ?_ ?_)
      | (with_reducible refine LeO.bind ?_ (fun _ => ?_))
      | exact ih0 _ _ _
      | exact ih1 _ _ _ _ _ _ _ _
      | exact ih2 _ _ _ _ _ _ _ _ _ _
      | exact ih3 _ _ _ _ _ _ _ _
      | exact deque_Items.mono _ _ _ _
      | exact trefoillaw12_awake.mono _
      | exact trefoillaw12_play.mono _ _ _
      | exact trefoilref04_Has.mono _ _ _
      | exact trefoilref12_Size.mono _ _
      | exact LeO.none _
      | refine LeO.ite ?_ ?_
      | refine LeO.bind ?_ (fun _ => ?_)
    · intro y0 y1 y2 y3 y4 y5 y6 y7
      unfold trefoillaw12_DequeOnce.l2
      repeat' first
      | (with_reducible exact ih0 _ _ _)
      | (with_reducible exact ih1 _ _ _ _ _ _ _ _)
      | (with_reducible exact ih2 _ _ _ _ _ _ _ _ _ _)
      | (with_reducible exact ih3 _ _ _ _ _ _ _ _)
      | (with_reducible exact deque_Items.mono _ _ _ _)
      | (with_reducible exact trefoillaw12_awake.mono _)
      | (with_reducible exact trefoillaw12_play.mono _ _ _)
      | (with_reducible exact trefoilref04_Has.mono _ _ _)
      | (with_reducible exact trefoilref12_Size.mono _ _)
      | (with_reducible exact LeO.refl _)
      | (with_reducible exact LeO.none _)
      | (with_reducible refine LeO.ite ?_ ?_)
      | (with_reducible refine LeO.bind ?_ (fun _ => ?_))
      | exact ih0 _ _ _
      | exact ih1 _ _ _ _ _ _ _ _
      | exact ih2 _ _ _ _ _ _ _ _ _ _
      | exact ih3 _ _ _ _ _ _ _ _
      | exact deque_Items.mono _ _ _ _
      | exact trefoillaw12_awake.mono _
      | exact trefoillaw12_play.mono _ _ _
      | exact trefoilref04_Has.mono _ _ _
      | exact trefoilref12_Size.mono _ _
      | exact LeO.none _
      | refine LeO.ite ?_ ?_
      | refine LeO.bind ?_ (fun _ => ?_)
theorem trefoillaw12_DequeOnce.mono : ∀ a0 a1 k, LeO (trefoillaw12_DequeOnce.f k a0 a1) (trefoillaw12_DequeOnce.f (k + 1) a0 a1) := by
  intro a0 a1 k
  obtain ⟨ih0, ih1, ih2, ih3⟩ := trefoillaw12_DequeOnce.mono_l k
  unfold trefoillaw12_DequeOnce.f
  repeat' first
      | (with_reducible exact ih0 _ _ _)
      | (with_reducible exact ih1 _ _ _ _ _ _ _ _)
      | (with_reducible exact ih2 _ _ _ _ _ _ _ _ _ _)
      | (with_reducible exact ih3 _ _ _ _ _ _ _ _)
      | (with_reducible exact deque_Items.mono _ _ _ _)
      | (with_reducible exact trefoillaw12_awake.mono _)
      | (with_reducible exact trefoillaw12_play.mono _ _ _)
      | (with_reducible exact trefoilref04_Has.mono _ _ _)
      | (with_reducible exact trefoilref12_Size.mono _ _)
      | (with_reducible exact LeO.refl _)
      | (with_reducible exact LeO.none _)
      | (with_reducible refine LeO.ite ?_ ?_)
      | (with_reducible refine LeO.bind ?_ (fun _ => ?_))
      | exact ih0 _ _ _
      | exact ih1 _ _ _ _ _ _ _ _
      | exact ih2 _ _ _ _ _ _ _ _ _ _
      | exact ih3 _ _ _ _ _ _ _ _
      | exact deque_Items.mono _ _ _ _
      | exact trefoillaw12_awake.mono _
      | exact trefoillaw12_play.mono _ _ _
      | exact trefoilref04_Has.mono _ _ _
      | exact trefoilref12_Size.mono _ _
      | exact LeO.none _
      | refine LeO.ite ?_ ?_
      | refine LeO.bind ?_ (fun _ => ?_)
set_option maxHeartbeats 8000000 in
set_option maxRecDepth 100000 in
theorem trefoillaw12_DequeOnce.calls (k : Nat) (a0 : Int) (A1 : Option Addr) (c1 : Nat) (l1 : List (S51)) (r : Bool) (w : World) (hr1 : Kd.C k51 w A1 l1.length l1) (hc1 : l1.length ≤ c1) (h : trefoillaw12_DequeOnce.f k a0 l1 = some r) (hTab : TabOK w := by first | exact hTab | exact TabOK.below hTab HB.out | exact TabOK.drewN hTab _ | exact TabOK.below hTab (by repeat (first | (with_reducible first | exact HB.out | apply below_alloc | apply pw_below_drewN | apply below_drew1 | refine below_set ?_ (Aside0.out (by assumption))) | exact HB.out)) | (repeat (first | exact hTab | apply TabOK.drewN | apply TabOK.drew | apply TabOK.alloc); done)) :
    Calls Tryd.prog 5 #[.int .i64 a0, .slice A1 l1.length c1] w fun e w' => e = .returned (.bool r) ∧ Below w.heap.size w w' := by
  have hu24 := Tryd.underlying24
  have HR1 := Aside0.mk hr1
  have HC1 := Aside0.mk hc1
  clear hr1 hc1
  have HB := Aside0.mk (Below.refl w.heap.size w)
  have H : ((trefoillaw12_awake.f k).bind fun t373 => (if t373 = true then (if (l1.length : Int) > 200 then (trefoillaw12_DequeOnce.j0 k a0 l1 true) else ((trefoilref12_Size.f k a0).bind fun t374 => (trefoillaw12_DequeOnce.j0 k a0 l1 (!t374)))) else (trefoillaw12_DequeOnce.j0 k a0 l1 true))) = some r := h
  clear h
  have HC3 := Aside0.mk H
  clear H
  go_enter Tryd.func5, Tryd.ntmps5
  go_upto_region 1 with (fail)
  repeat (go_quiet (fail); go_upto_region 1 with (fail))
  go_cut [25] (fun v25 wc => ∃ (kq : Nat) (x25_2 : Bool), v25 = .bool x25_2 ∧ Aside0 (trefoillaw12_DequeOnce.j0 kq a0 l1 x25_2 = some r) ∧ Aside0 (kq ≤ k) ∧ Aside0 (Below w.heap.size w wc))
  case first =>
    have H := HC3.out
    clear HC3
    replace H := Option.bind_eq_some_iff.mp H
    obtain ⟨t373, A40, H⟩ := H
    replace H : (if t373 = true then (if (l1.length : Int) > 200 then (trefoillaw12_DequeOnce.j0 k a0 l1 true) else ((trefoilref12_Size.f k a0).bind fun t374 => (trefoillaw12_DequeOnce.j0 k a0 l1 (!t374)))) else (trefoillaw12_DequeOnce.j0 k a0 l1 true)) = some r := H
    have A4 := Aside0.mk A40
    clear A40
    by_cases c5 : t373 = true
    · subst c5
      have H1 : (if (l1.length : Int) > 200 then (trefoillaw12_DequeOnce.j0 k a0 l1 true) else ((trefoilref12_Size.f k a0).bind fun t374 => (trefoillaw12_DequeOnce.j0 k a0 l1 (!t374)))) = some r := by rw [if_pos rfl] at H; exact H
      clear H
      have H := H1
      clear H1
      by_cases c6 : (l1.length : Int) > 200
      · rw [if_pos c6] at H
        have c6b0 : decide (200 < (l1.length : Int)) = true := decide_eq_true c6
        have c6b1 : decide (200 < l1.length) = true := decide_eq_true (by omega)
        clear c6
        (first | rw [c6b0] | (simp only [i64_w, i32_w]; rw [c6b0]) | skip)
        have H' := Aside0.mk H
        clear H
        go_wp2_with (first | (go_at_call 8; (with_reducible refine (trefoillaw12_awake.calls k  true _ A4.out).mono ?_); rintro e w7 ⟨rfl, hb⟩; have n0_ := Aside0.mk (below_step (by repeat (first | (with_reducible first | exact HB.out | apply below_alloc | apply pw_below_drewN | apply below_drew1) | exact HB.out)) hb); clear HB; have HB := n0_; clear n0_; (try clear hb); (try clear hb2); (try clear hk); (try clear hi)))
        repeat (go_quiet (first | (go_at_call 8; (with_reducible refine (trefoillaw12_awake.calls k  true _ A4.out).mono ?_); rintro e w7 ⟨rfl, hb⟩; have n0_ := Aside0.mk (below_step (by repeat (first | (with_reducible first | exact HB.out | apply below_alloc | apply pw_below_drewN | apply below_drew1) | exact HB.out)) hb); clear HB; have HB := n0_; clear n0_; (try clear hb); (try clear hb2); (try clear hk); (try clear hi))); try go_wp2_with (first | (go_at_call 8; (with_reducible refine (trefoillaw12_awake.calls k  true _ A4.out).mono ?_); rintro e w7 ⟨rfl, hb⟩; have n0_ := Aside0.mk (below_step (by repeat (first | (with_reducible first | exact HB.out | apply below_alloc | apply pw_below_drewN | apply below_drew1) | exact HB.out)) hb); clear HB; have HB := n0_; clear n0_; (try clear hb); (try clear hb2); (try clear hk); (try clear hi))))
        go_meet
        case rel => exact ⟨_, (true), (by first | rfl | (simp; done) | (simp [*]; done)), H', ⟨by first | omega | exact Nat.le_refl _⟩, ⟨by repeat (first | (with_reducible first | exact HB.out | apply below_alloc | apply pw_below_drewN | apply below_drew1) | exact HB.out)⟩⟩
      · rw [if_neg c6] at H
        have c6b0 : decide (200 < (l1.length : Int)) = false := decide_eq_false c6
        have c6b1 : decide (200 < l1.length) = false := decide_eq_false (by omega)
        clear c6
        (first | rw [c6b0] | (simp only [i64_w, i32_w]; rw [c6b0]) | skip)
        replace H := Option.bind_eq_some_iff.mp H
        obtain ⟨t374, A80, H⟩ := H
        replace H : (trefoillaw12_DequeOnce.j0 k a0 l1 (!t374)) = some r := H
        have A8 := Aside0.mk A80
        clear A80
        have H' := Aside0.mk H
        clear H
        go_wp2_with (first | (go_at_call 8; (with_reducible refine (trefoillaw12_awake.calls k  true _ A4.out).mono ?_); rintro e w9 ⟨rfl, hb⟩; have n0_ := Aside0.mk (below_step (by repeat (first | (with_reducible first | exact HB.out | apply below_alloc | apply pw_below_drewN | apply below_drew1) | exact HB.out)) hb); clear HB; have HB := n0_; clear n0_; (try clear hb); (try clear hb2); (try clear hk); (try clear hi)) | (go_at_call 22; (with_reducible refine (trefoilref12_Size.calls k a0 t374 _ A8.out).mono ?_); rintro e w' ⟨rfl, ⟨nd, rfl⟩⟩; (try first | exact ⟨rfl, _, World.drewN_drewN _ _ _⟩ | exact ⟨rfl, _, Eq.trans (World.drewN_drewN _ _ _) (congrArg (World.drewN _) (Nat.add_assoc _ _ _))⟩)))
        repeat (go_quiet (first | (go_at_call 8; (with_reducible refine (trefoillaw12_awake.calls k  true _ A4.out).mono ?_); rintro e w9 ⟨rfl, hb⟩; have n0_ := Aside0.mk (below_step (by repeat (first | (with_reducible first | exact HB.out | apply below_alloc | apply pw_below_drewN | apply below_drew1) | exact HB.out)) hb); clear HB; have HB := n0_; clear n0_; (try clear hb); (try clear hb2); (try clear hk); (try clear hi)) | (go_at_call 22; (with_reducible refine (trefoilref12_Size.calls k a0 t374 _ A8.out).mono ?_); rintro e w' ⟨rfl, ⟨nd, rfl⟩⟩; (try first | exact ⟨rfl, _, World.drewN_drewN _ _ _⟩ | exact ⟨rfl, _, Eq.trans (World.drewN_drewN _ _ _) (congrArg (World.drewN _) (Nat.add_assoc _ _ _))⟩))); try go_wp2_with (first | (go_at_call 8; (with_reducible refine (trefoillaw12_awake.calls k  true _ A4.out).mono ?_); rintro e w9 ⟨rfl, hb⟩; have n0_ := Aside0.mk (below_step (by repeat (first | (with_reducible first | exact HB.out | apply below_alloc | apply pw_below_drewN | apply below_drew1) | exact HB.out)) hb); clear HB; have HB := n0_; clear n0_; (try clear hb); (try clear hb2); (try clear hk); (try clear hi)) | (go_at_call 22; (with_reducible refine (trefoilref12_Size.calls k a0 t374 _ A8.out).mono ?_); rintro e w' ⟨rfl, ⟨nd, rfl⟩⟩; (try first | exact ⟨rfl, _, World.drewN_drewN _ _ _⟩ | exact ⟨rfl, _, Eq.trans (World.drewN_drewN _ _ _) (congrArg (World.drewN _) (Nat.add_assoc _ _ _))⟩))))
        go_meet
        case rel => exact ⟨_, (!t374), (by first | rfl | (simp; done) | (simp [*]; done)), H', ⟨by first | omega | exact Nat.le_refl _⟩, ⟨by repeat (first | (with_reducible first | exact HB.out | apply below_alloc | apply pw_below_drewN | apply below_drew1) | exact HB.out)⟩⟩
    · replace c5 := Bool.eq_false_iff.mpr c5
      subst c5
      have H1 : (trefoillaw12_DequeOnce.j0 k a0 l1 true) = some r := by rw [if_neg (show ¬ (false = true) by decide)] at H; exact H
      clear H
      have H := H1
      clear H1
      have H' := Aside0.mk H
      clear H
      go_wp2_with (first | (go_at_call 8; (with_reducible refine (trefoillaw12_awake.calls k  false _ A4.out).mono ?_); rintro e w10 ⟨rfl, hb⟩; have n0_ := Aside0.mk (below_step (by repeat (first | (with_reducible first | exact HB.out | apply below_alloc | apply pw_below_drewN | apply below_drew1) | exact HB.out)) hb); clear HB; have HB := n0_; clear n0_; (try clear hb); (try clear hb2); (try clear hk); (try clear hi)))
      repeat (go_quiet (first | (go_at_call 8; (with_reducible refine (trefoillaw12_awake.calls k  false _ A4.out).mono ?_); rintro e w10 ⟨rfl, hb⟩; have n0_ := Aside0.mk (below_step (by repeat (first | (with_reducible first | exact HB.out | apply below_alloc | apply pw_below_drewN | apply below_drew1) | exact HB.out)) hb); clear HB; have HB := n0_; clear n0_; (try clear hb); (try clear hb2); (try clear hk); (try clear hi))); try go_wp2_with (first | (go_at_call 8; (with_reducible refine (trefoillaw12_awake.calls k  false _ A4.out).mono ?_); rintro e w10 ⟨rfl, hb⟩; have n0_ := Aside0.mk (below_step (by repeat (first | (with_reducible first | exact HB.out | apply below_alloc | apply pw_below_drewN | apply below_drew1) | exact HB.out)) hb); clear HB; have HB := n0_; clear n0_; (try clear hb); (try clear hb2); (try clear hk); (try clear hi))))
      go_meet
      case rel => exact ⟨_, (true), (by first | rfl | (simp; done) | (simp [*]; done)), H', ⟨by first | omega | exact Nat.le_refl _⟩, ⟨by repeat (first | (with_reducible first | exact HB.out | apply below_alloc | apply pw_below_drewN | apply below_drew1) | exact HB.out)⟩⟩
  case rest =>
    clear HC3
    try clear c1
    try clear p2
    try clear c5
    try clear c6
    try clear c6b0
    try clear c6b1
    obtain ⟨kq, x25_2, rfl, HA, HJ2, HB⟩ := hcut
    cases kq with
    | zero => exact absurd HA.out (by simp [trefoillaw12_DequeOnce.j0])
    | succ kj2 =>
      have H := HA.out
      clear HA
      simp only [trefoillaw12_DequeOnce.j0] at H
      by_cases c11 : x25_2 = true
      · subst c11
        have H1 : ((trefoillaw12_awake.f kj2).bind fun t375 => (some t375)) = some r := by rw [if_pos rfl] at H; exact H
        clear H
        have H := H1
        clear H1
        replace H := Option.bind_eq_some_iff.mp H
        obtain ⟨t375, A120, H⟩ := H
        replace H : (some t375) = some r := H
        have A12 := Aside0.mk A120
        clear A120
        obtain rfl := Option.some.inj H
        go_wp2_with (first | (go_at_call 8; (with_reducible refine (trefoillaw12_awake.calls kj2  t375 _ A12.out).mono ?_); rintro e w13 ⟨rfl, hb⟩; have n0_ := Aside0.mk (below_step (by repeat (first | (with_reducible first | exact HB.out | apply below_alloc | apply pw_below_drewN | apply below_drew1) | exact HB.out)) hb); clear HB; have HB := n0_; clear n0_; (try clear hb); (try clear hb2); (try clear hk); (try clear hi)))
        repeat (go_quiet (first | (go_at_call 8; (with_reducible refine (trefoillaw12_awake.calls kj2  t375 _ A12.out).mono ?_); rintro e w13 ⟨rfl, hb⟩; have n0_ := Aside0.mk (below_step (by repeat (first | (with_reducible first | exact HB.out | apply below_alloc | apply pw_below_drewN | apply below_drew1) | exact HB.out)) hb); clear HB; have HB := n0_; clear n0_; (try clear hb); (try clear hb2); (try clear hk); (try clear hi))); try go_wp2_with (first | (go_at_call 8; (with_reducible refine (trefoillaw12_awake.calls kj2  t375 _ A12.out).mono ?_); rintro e w13 ⟨rfl, hb⟩; have n0_ := Aside0.mk (below_step (by repeat (first | (with_reducible first | exact HB.out | apply below_alloc | apply pw_below_drewN | apply below_drew1) | exact HB.out)) hb); clear HB; have HB := n0_; clear n0_; (try clear hb); (try clear hb2); (try clear hk); (try clear hi))))
        go_ret
        exact ⟨by first | rfl | (simp [errW_none, errW_some] <;> rfl) | (simp [*, errW_none, errW_some] <;> rfl), by repeat (first | (with_reducible first | exact HB.out | apply below_alloc | apply pw_below_drewN | apply below_drew1) | exact HB.out)⟩
      · replace c11 := Bool.eq_false_iff.mpr c11
        subst c11
        have H1 : ((trefoillaw12_play.f kj2 a0 l1).bind fun bt376 => ((deque_Items.f kj2 bt376.1 bt376.2.1 bt376.2.2.1).bind fun t387 => (trefoillaw12_DequeOnce.l0 kj2 bt376.2.2.2.1 bt376.2.2.2.2.1 bt376.2.2.2.2.2 t387 1 bt376.1 bt376.2.1 bt376.2.2.1))) = some r := by rw [if_neg (show ¬ (false = true) by decide)] at H; exact H
        clear H
        have H := H1
        clear H1
        replace H := Option.bind_eq_some_iff.mp H
        obtain ⟨⟨t376, t379, t380, t381, t384, t385⟩, A140, H⟩ := H
        replace H : ((deque_Items.f kj2 t376 t379 t380).bind fun t387 => (trefoillaw12_DequeOnce.l0 kj2 t381 t384 t385 t387 1 t376 t379 t380)) = some r := H
        have A14 := Aside0.mk A140
        clear A140
        replace H := Option.bind_eq_some_iff.mp H
        obtain ⟨t387, A150, H⟩ := H
        replace H : (trefoillaw12_DequeOnce.l0 kj2 t381 t384 t385 t387 1 t376 t379 t380) = some r := H
        have A15 := Aside0.mk A150
        clear A150
        have H' := Aside0.mk H
        clear H
        go_wp2_with (first | (go_at_call 25; (with_reducible refine (trefoillaw12_play.calls kj2 a0 _ _ l1 t376 t379 t380 t381 t384 t385 _ ?side1 ?side2 A14.out).mono ?_); (case side1 => repeat (first | exact (Kd.C_below HR1.out HB.out) | (with_reducible refine Kd.C_alloc ?_ _) | (with_reducible refine Kd.C_drewN ?_ _) | (with_reducible refine Kd.C_drew ?_))); (case side2 => exact HC1.out); rintro e w16 ⟨v377, v382, rfl, ho0, ho1, hb⟩; have n0_ := Aside0.mk (Kd.R_lower ho0 (below_size (by repeat (first | (with_reducible first | exact HB.out | apply below_alloc | apply pw_below_drewN | apply below_drew1) | exact HB.out)))); have n1_ := Aside0.mk (Kd.R_lower ho1 (below_size (by repeat (first | (with_reducible first | exact HB.out | apply below_alloc | apply pw_below_drewN | apply below_drew1) | exact HB.out)))); have n2_ := Aside0.mk (below_step (by repeat (first | (with_reducible first | exact HB.out | apply below_alloc | apply pw_below_drewN | apply below_drew1) | exact HB.out)) hb); clear HB; have HO378 := n0_; have HO383 := n1_; have HB := n2_; clear n0_ n1_ n2_; (try clear hb); (try clear hb2); (try clear hk); (try clear hi); (try clear ho0); (try clear ho1)) | ((with_reducible refine gate_dst (N := 5) rfl ?_); (try (refine gate_guard (by rfl) ?_; dsimp only)); refine box_event ?hg (N := 5) ?hd (cs := #[.slice none 0 0, .int .i64 0, .int .i64 0]) (t := 24) ?hr ?_; (case hd => rfl); (case hg => rfl); (case hr => first | (go_simp; done) | (go_simp; rfl)); intro gb386 hg w17 hbox hb; have n0_ := Aside0.mk (Kd.R_below (by (with_reducible repeat (first | apply Kd.R_alloc | apply Kd.R_drewN | apply Kd.R_drew)); exact HO378.out) hb); have n1_ := Aside0.mk (Kd.R_below (by (with_reducible repeat (first | apply Kd.R_alloc | apply Kd.R_drewN | apply Kd.R_drew)); exact HO383.out) hb); have n2_ := Aside0.mk (below_step (by repeat (first | (with_reducible first | exact HB.out | apply below_alloc | apply pw_below_drewN | apply below_drew1) | exact HB.out)) hb); have n3_ := Aside0.mk (hbox); have n4_ := Aside0.mk ((by rw [hg]; exact (below_size (by repeat (first | (with_reducible first | exact HB.out | apply below_alloc | apply pw_below_drewN | apply below_drew1) | exact HB.out))) : w.heap.size ≤ gb386)); have n5_ := Aside0.mk ((by rw [hg]; exact (below_size (by repeat (first | (with_reducible first | exact HB.out | apply below_alloc | apply pw_below_drewN | apply below_drew1) | exact HB.out))) : w.heap.size ≤ gb386)); clear HO378; clear HO383; clear HB; have HO378 := n0_; have HO383 := n1_; have HB := n2_; have BK386 := n3_; have GW386 := n4_; have GE386 := n5_; clear n0_ n1_ n2_ n3_ n4_ n5_; clear hb hbox hg; obtain ⟨Ao18, co18, eo18⟩ := Kd.R_slice HO378.out; subst eo18; have hcz19_0 : w17.cell? ⟨gb386, 0, none⟩ = some (.slice none 0 0) := (blk_cell BK386.out 0).trans rfl; have hcz19_1 : w17.cell? ⟨gb386, 1, none⟩ = some (.int .i64 0) := (blk_cell BK386.out 1).trans rfl; have hcz19_2 : w17.cell? ⟨gb386, 2, none⟩ = some (.int .i64 0) := (blk_cell BK386.out 2).trans rfl; have hfz19_0 := blk_frozen BK386.out 0; have hfz19_1 := blk_frozen BK386.out 1; have hfz19_2 := blk_frozen BK386.out 2) | (go_at_call 18; (with_reducible refine (deque_Items.calls kj2 _ _ t376 t379 t380 t387 _ ?side1 ?side2 A15.out).mono ?_); (case side1 => refine (Kd.R_reads' (e := 3) (base := w.heap.size) (ok := fun k_ => some k_ ≠ (v382 : Value).ownBlock) (n := t376.length) (c := co18) ?_).2.2; exact (by (with_reducible repeat (first | apply Kd.R_alloc | apply Kd.R_drewN | apply Kd.R_drew)); exact (Kd.R_mono (Kd.R_far (p := ⟨gb386, 2, none⟩) (Kd.R_far (p := ⟨gb386, 1, none⟩) (Kd.R_far (p := ⟨gb386, 0, none⟩) (Kd.R_types HO378.out BK386.out (by decide)) (fun _ hk => hk.2) (.slice Ao18 t376.length co18)) (fun _ hk => hk.2) (.int .i64 t379)) (fun _ hk => hk.2) (.int .i64 t380)) (fun _ h_ => h_.1)))); (case side2 => exact (Kd.R_reads' HO378.out).2.1); rintro e w20 ⟨v388, rfl, ho0, hb⟩; have n0_ := Aside0.mk (Kd.R_elder' (by (with_reducible repeat (first | apply Kd.R_alloc | apply Kd.R_drewN | apply Kd.R_drew)); exact (Kd.R_mono (Kd.R_far (p := ⟨gb386, 2, none⟩) (Kd.R_far (p := ⟨gb386, 1, none⟩) (Kd.R_far (p := ⟨gb386, 0, none⟩) (Kd.R_types HO378.out BK386.out (by decide)) (fun _ hk => hk.2) (.slice Ao18 t376.length co18)) (fun _ hk => hk.2) (.int .i64 t379)) (fun _ hk => hk.2) (.int .i64 t380)) (fun _ h_ => h_.1))) (Kd.R_base ho0) hb); have n1_ := Aside0.mk (Kd.R_elder' (by (with_reducible repeat (first | apply Kd.R_alloc | apply Kd.R_drewN | apply Kd.R_drew)); exact (Kd.R_mono (Kd.R_far (p := ⟨gb386, 2, none⟩) (Kd.R_far (p := ⟨gb386, 1, none⟩) (Kd.R_far (p := ⟨gb386, 0, none⟩) (Kd.R_types HO383.out BK386.out (by decide)) (fun _ hk => hk.2) (.slice Ao18 t376.length co18)) (fun _ hk => hk.2) (.int .i64 t379)) (fun _ hk => hk.2) (.int .i64 t380)) (fun _ h_ => h_.1))) (Kd.R_base ho0) hb); have n2_ := Aside0.mk (Kd.R_lower (Kd.R_new' (Kd.R_new' ho0 (Kd.R_lt (by (with_reducible repeat (first | apply Kd.R_alloc | apply Kd.R_drewN | apply Kd.R_drew)); exact (Kd.R_mono (Kd.R_far (p := ⟨gb386, 2, none⟩) (Kd.R_far (p := ⟨gb386, 1, none⟩) (Kd.R_far (p := ⟨gb386, 0, none⟩) (Kd.R_types HO378.out BK386.out (by decide)) (fun _ hk => hk.2) (.slice Ao18 t376.length co18)) (fun _ hk => hk.2) (.int .i64 t379)) (fun _ hk => hk.2) (.int .i64 t380)) (fun _ h_ => h_.1))))) (Kd.R_lt (by (with_reducible repeat (first | apply Kd.R_alloc | apply Kd.R_drewN | apply Kd.R_drew)); exact (Kd.R_mono (Kd.R_far (p := ⟨gb386, 2, none⟩) (Kd.R_far (p := ⟨gb386, 1, none⟩) (Kd.R_far (p := ⟨gb386, 0, none⟩) (Kd.R_types HO383.out BK386.out (by decide)) (fun _ hk => hk.2) (.slice Ao18 t376.length co18)) (fun _ hk => hk.2) (.int .i64 t379)) (fun _ hk => hk.2) (.int .i64 t380)) (fun _ h_ => h_.1))))) (below_size (by repeat (first | (with_reducible first | exact HB.out | apply below_alloc | apply pw_below_drewN | apply below_drew1 | refine below_set ?_ GE386.out) | exact HB.out)))); have n3_ := Aside0.mk (blk_below (g := gb386) (o := .cells #[.slice Ao18 t376.length co18, .int .i64 t379, .int .i64 t380] 24 (0, 0)) (by (with_reducible repeat (first | refine blk_drewN ?_ _ | refine blk_drew ?_ | refine blk_alloc ?_ _)); refine blk_put (cs := #[.slice Ao18 t376.length co18, .int .i64 t379, .int .i64 0]) ?_ 2 _ rfl; (with_reducible repeat (first | refine blk_drewN ?_ _ | refine blk_drew ?_ | refine blk_alloc ?_ _)); refine blk_put (cs := #[.slice Ao18 t376.length co18, .int .i64 0, .int .i64 0]) ?_ 1 _ rfl; (with_reducible repeat (first | refine blk_drewN ?_ _ | refine blk_drew ?_ | refine blk_alloc ?_ _)); refine blk_put (cs := #[.slice none 0 0, .int .i64 0, .int .i64 0]) ?_ 0 _ rfl; (with_reducible repeat (first | refine blk_drewN ?_ _ | refine blk_drew ?_ | refine blk_alloc ?_ _)); exact BK386.out) hb); have n4_ := Aside0.mk (below_step (by repeat (first | (with_reducible first | exact HB.out | apply below_alloc | apply pw_below_drewN | apply below_drew1 | refine below_set ?_ GE386.out) | exact HB.out)) hb); clear HO378; clear HO383; clear BK386; clear HB; have HO378 := n0_; have HO383 := n1_; have HO389 := n2_; have BK386 := n3_; have HB := n4_; clear n0_ n1_ n2_ n3_ n4_; (try clear hb); (try clear hb2); (try clear hk); (try clear hi); (try clear ho0)))
        repeat (go_quiet (first | (go_at_call 25; (with_reducible refine (trefoillaw12_play.calls kj2 a0 _ _ l1 t376 t379 t380 t381 t384 t385 _ ?side1 ?side2 A14.out).mono ?_); (case side1 => repeat (first | exact (Kd.C_below HR1.out HB.out) | (with_reducible refine Kd.C_alloc ?_ _) | (with_reducible refine Kd.C_drewN ?_ _) | (with_reducible refine Kd.C_drew ?_))); (case side2 => exact HC1.out); rintro e w16 ⟨v377, v382, rfl, ho0, ho1, hb⟩; have n0_ := Aside0.mk (Kd.R_lower ho0 (below_size (by repeat (first | (with_reducible first | exact HB.out | apply below_alloc | apply pw_below_drewN | apply below_drew1) | exact HB.out)))); have n1_ := Aside0.mk (Kd.R_lower ho1 (below_size (by repeat (first | (with_reducible first | exact HB.out | apply below_alloc | apply pw_below_drewN | apply below_drew1) | exact HB.out)))); have n2_ := Aside0.mk (below_step (by repeat (first | (with_reducible first | exact HB.out | apply below_alloc | apply pw_below_drewN | apply below_drew1) | exact HB.out)) hb); clear HB; have HO378 := n0_; have HO383 := n1_; have HB := n2_; clear n0_ n1_ n2_; (try clear hb); (try clear hb2); (try clear hk); (try clear hi); (try clear ho0); (try clear ho1)) | ((with_reducible refine gate_dst (N := 5) rfl ?_); (try (refine gate_guard (by rfl) ?_; dsimp only)); refine box_event ?hg (N := 5) ?hd (cs := #[.slice none 0 0, .int .i64 0, .int .i64 0]) (t := 24) ?hr ?_; (case hd => rfl); (case hg => rfl); (case hr => first | (go_simp; done) | (go_simp; rfl)); intro gb386 hg w17 hbox hb; have n0_ := Aside0.mk (Kd.R_below (by (with_reducible repeat (first | apply Kd.R_alloc | apply Kd.R_drewN | apply Kd.R_drew)); exact HO378.out) hb); have n1_ := Aside0.mk (Kd.R_below (by (with_reducible repeat (first | apply Kd.R_alloc | apply Kd.R_drewN | apply Kd.R_drew)); exact HO383.out) hb); have n2_ := Aside0.mk (below_step (by repeat (first | (with_reducible first | exact HB.out | apply below_alloc | apply pw_below_drewN | apply below_drew1) | exact HB.out)) hb); have n3_ := Aside0.mk (hbox); have n4_ := Aside0.mk ((by rw [hg]; exact (below_size (by repeat (first | (with_reducible first | exact HB.out | apply below_alloc | apply pw_below_drewN | apply below_drew1) | exact HB.out))) : w.heap.size ≤ gb386)); have n5_ := Aside0.mk ((by rw [hg]; exact (below_size (by repeat (first | (with_reducible first | exact HB.out | apply below_alloc | apply pw_below_drewN | apply below_drew1) | exact HB.out))) : w.heap.size ≤ gb386)); clear HO378; clear HO383; clear HB; have HO378 := n0_; have HO383 := n1_; have HB := n2_; have BK386 := n3_; have GW386 := n4_; have GE386 := n5_; clear n0_ n1_ n2_ n3_ n4_ n5_; clear hb hbox hg; obtain ⟨Ao18, co18, eo18⟩ := Kd.R_slice HO378.out; subst eo18; have hcz19_0 : w17.cell? ⟨gb386, 0, none⟩ = some (.slice none 0 0) := (blk_cell BK386.out 0).trans rfl; have hcz19_1 : w17.cell? ⟨gb386, 1, none⟩ = some (.int .i64 0) := (blk_cell BK386.out 1).trans rfl; have hcz19_2 : w17.cell? ⟨gb386, 2, none⟩ = some (.int .i64 0) := (blk_cell BK386.out 2).trans rfl; have hfz19_0 := blk_frozen BK386.out 0; have hfz19_1 := blk_frozen BK386.out 1; have hfz19_2 := blk_frozen BK386.out 2) | (go_at_call 18; (with_reducible refine (deque_Items.calls kj2 _ _ t376 t379 t380 t387 _ ?side1 ?side2 A15.out).mono ?_); (case side1 => refine (Kd.R_reads' (e := 3) (base := w.heap.size) (ok := fun k_ => some k_ ≠ (v382 : Value).ownBlock) (n := t376.length) (c := co18) ?_).2.2; exact (by (with_reducible repeat (first | apply Kd.R_alloc | apply Kd.R_drewN | apply Kd.R_drew)); exact (Kd.R_mono (Kd.R_far (p := ⟨gb386, 2, none⟩) (Kd.R_far (p := ⟨gb386, 1, none⟩) (Kd.R_far (p := ⟨gb386, 0, none⟩) (Kd.R_types HO378.out BK386.out (by decide)) (fun _ hk => hk.2) (.slice Ao18 t376.length co18)) (fun _ hk => hk.2) (.int .i64 t379)) (fun _ hk => hk.2) (.int .i64 t380)) (fun _ h_ => h_.1)))); (case side2 => exact (Kd.R_reads' HO378.out).2.1); rintro e w20 ⟨v388, rfl, ho0, hb⟩; have n0_ := Aside0.mk (Kd.R_elder' (by (with_reducible repeat (first | apply Kd.R_alloc | apply Kd.R_drewN | apply Kd.R_drew)); exact (Kd.R_mono (Kd.R_far (p := ⟨gb386, 2, none⟩) (Kd.R_far (p := ⟨gb386, 1, none⟩) (Kd.R_far (p := ⟨gb386, 0, none⟩) (Kd.R_types HO378.out BK386.out (by decide)) (fun _ hk => hk.2) (.slice Ao18 t376.length co18)) (fun _ hk => hk.2) (.int .i64 t379)) (fun _ hk => hk.2) (.int .i64 t380)) (fun _ h_ => h_.1))) (Kd.R_base ho0) hb); have n1_ := Aside0.mk (Kd.R_elder' (by (with_reducible repeat (first | apply Kd.R_alloc | apply Kd.R_drewN | apply Kd.R_drew)); exact (Kd.R_mono (Kd.R_far (p := ⟨gb386, 2, none⟩) (Kd.R_far (p := ⟨gb386, 1, none⟩) (Kd.R_far (p := ⟨gb386, 0, none⟩) (Kd.R_types HO383.out BK386.out (by decide)) (fun _ hk => hk.2) (.slice Ao18 t376.length co18)) (fun _ hk => hk.2) (.int .i64 t379)) (fun _ hk => hk.2) (.int .i64 t380)) (fun _ h_ => h_.1))) (Kd.R_base ho0) hb); have n2_ := Aside0.mk (Kd.R_lower (Kd.R_new' (Kd.R_new' ho0 (Kd.R_lt (by (with_reducible repeat (first | apply Kd.R_alloc | apply Kd.R_drewN | apply Kd.R_drew)); exact (Kd.R_mono (Kd.R_far (p := ⟨gb386, 2, none⟩) (Kd.R_far (p := ⟨gb386, 1, none⟩) (Kd.R_far (p := ⟨gb386, 0, none⟩) (Kd.R_types HO378.out BK386.out (by decide)) (fun _ hk => hk.2) (.slice Ao18 t376.length co18)) (fun _ hk => hk.2) (.int .i64 t379)) (fun _ hk => hk.2) (.int .i64 t380)) (fun _ h_ => h_.1))))) (Kd.R_lt (by (with_reducible repeat (first | apply Kd.R_alloc | apply Kd.R_drewN | apply Kd.R_drew)); exact (Kd.R_mono (Kd.R_far (p := ⟨gb386, 2, none⟩) (Kd.R_far (p := ⟨gb386, 1, none⟩) (Kd.R_far (p := ⟨gb386, 0, none⟩) (Kd.R_types HO383.out BK386.out (by decide)) (fun _ hk => hk.2) (.slice Ao18 t376.length co18)) (fun _ hk => hk.2) (.int .i64 t379)) (fun _ hk => hk.2) (.int .i64 t380)) (fun _ h_ => h_.1))))) (below_size (by repeat (first | (with_reducible first | exact HB.out | apply below_alloc | apply pw_below_drewN | apply below_drew1 | refine below_set ?_ GE386.out) | exact HB.out)))); have n3_ := Aside0.mk (blk_below (g := gb386) (o := .cells #[.slice Ao18 t376.length co18, .int .i64 t379, .int .i64 t380] 24 (0, 0)) (by (with_reducible repeat (first | refine blk_drewN ?_ _ | refine blk_drew ?_ | refine blk_alloc ?_ _)); refine blk_put (cs := #[.slice Ao18 t376.length co18, .int .i64 t379, .int .i64 0]) ?_ 2 _ rfl; (with_reducible repeat (first | refine blk_drewN ?_ _ | refine blk_drew ?_ | refine blk_alloc ?_ _)); refine blk_put (cs := #[.slice Ao18 t376.length co18, .int .i64 0, .int .i64 0]) ?_ 1 _ rfl; (with_reducible repeat (first | refine blk_drewN ?_ _ | refine blk_drew ?_ | refine blk_alloc ?_ _)); refine blk_put (cs := #[.slice none 0 0, .int .i64 0, .int .i64 0]) ?_ 0 _ rfl; (with_reducible repeat (first | refine blk_drewN ?_ _ | refine blk_drew ?_ | refine blk_alloc ?_ _)); exact BK386.out) hb); have n4_ := Aside0.mk (below_step (by repeat (first | (with_reducible first | exact HB.out | apply below_alloc | apply pw_below_drewN | apply below_drew1 | refine below_set ?_ GE386.out) | exact HB.out)) hb); clear HO378; clear HO383; clear BK386; clear HB; have HO378 := n0_; have HO383 := n1_; have HO389 := n2_; have BK386 := n3_; have HB := n4_; clear n0_ n1_ n2_ n3_ n4_; (try clear hb); (try clear hb2); (try clear hk); (try clear hi); (try clear ho0))); try go_wp2_with (first | (go_at_call 25; (with_reducible refine (trefoillaw12_play.calls kj2 a0 _ _ l1 t376 t379 t380 t381 t384 t385 _ ?side1 ?side2 A14.out).mono ?_); (case side1 => repeat (first | exact (Kd.C_below HR1.out HB.out) | (with_reducible refine Kd.C_alloc ?_ _) | (with_reducible refine Kd.C_drewN ?_ _) | (with_reducible refine Kd.C_drew ?_))); (case side2 => exact HC1.out); rintro e w16 ⟨v377, v382, rfl, ho0, ho1, hb⟩; have n0_ := Aside0.mk (Kd.R_lower ho0 (below_size (by repeat (first | (with_reducible first | exact HB.out | apply below_alloc | apply pw_below_drewN | apply below_drew1) | exact HB.out)))); have n1_ := Aside0.mk (Kd.R_lower ho1 (below_size (by repeat (first | (with_reducible first | exact HB.out | apply below_alloc | apply pw_below_drewN | apply below_drew1) | exact HB.out)))); have n2_ := Aside0.mk (below_step (by repeat (first | (with_reducible first | exact HB.out | apply below_alloc | apply pw_below_drewN | apply below_drew1) | exact HB.out)) hb); clear HB; have HO378 := n0_; have HO383 := n1_; have HB := n2_; clear n0_ n1_ n2_; (try clear hb); (try clear hb2); (try clear hk); (try clear hi); (try clear ho0); (try clear ho1)) | ((with_reducible refine gate_dst (N := 5) rfl ?_); (try (refine gate_guard (by rfl) ?_; dsimp only)); refine box_event ?hg (N := 5) ?hd (cs := #[.slice none 0 0, .int .i64 0, .int .i64 0]) (t := 24) ?hr ?_; (case hd => rfl); (case hg => rfl); (case hr => first | (go_simp; done) | (go_simp; rfl)); intro gb386 hg w17 hbox hb; have n0_ := Aside0.mk (Kd.R_below (by (with_reducible repeat (first | apply Kd.R_alloc | apply Kd.R_drewN | apply Kd.R_drew)); exact HO378.out) hb); have n1_ := Aside0.mk (Kd.R_below (by (with_reducible repeat (first | apply Kd.R_alloc | apply Kd.R_drewN | apply Kd.R_drew)); exact HO383.out) hb); have n2_ := Aside0.mk (below_step (by repeat (first | (with_reducible first | exact HB.out | apply below_alloc | apply pw_below_drewN | apply below_drew1) | exact HB.out)) hb); have n3_ := Aside0.mk (hbox); have n4_ := Aside0.mk ((by rw [hg]; exact (below_size (by repeat (first | (with_reducible first | exact HB.out | apply below_alloc | apply pw_below_drewN | apply below_drew1) | exact HB.out))) : w.heap.size ≤ gb386)); have n5_ := Aside0.mk ((by rw [hg]; exact (below_size (by repeat (first | (with_reducible first | exact HB.out | apply below_alloc | apply pw_below_drewN | apply below_drew1) | exact HB.out))) : w.heap.size ≤ gb386)); clear HO378; clear HO383; clear HB; have HO378 := n0_; have HO383 := n1_; have HB := n2_; have BK386 := n3_; have GW386 := n4_; have GE386 := n5_; clear n0_ n1_ n2_ n3_ n4_ n5_; clear hb hbox hg; obtain ⟨Ao18, co18, eo18⟩ := Kd.R_slice HO378.out; subst eo18; have hcz19_0 : w17.cell? ⟨gb386, 0, none⟩ = some (.slice none 0 0) := (blk_cell BK386.out 0).trans rfl; have hcz19_1 : w17.cell? ⟨gb386, 1, none⟩ = some (.int .i64 0) := (blk_cell BK386.out 1).trans rfl; have hcz19_2 : w17.cell? ⟨gb386, 2, none⟩ = some (.int .i64 0) := (blk_cell BK386.out 2).trans rfl; have hfz19_0 := blk_frozen BK386.out 0; have hfz19_1 := blk_frozen BK386.out 1; have hfz19_2 := blk_frozen BK386.out 2) | (go_at_call 18; (with_reducible refine (deque_Items.calls kj2 _ _ t376 t379 t380 t387 _ ?side1 ?side2 A15.out).mono ?_); (case side1 => refine (Kd.R_reads' (e := 3) (base := w.heap.size) (ok := fun k_ => some k_ ≠ (v382 : Value).ownBlock) (n := t376.length) (c := co18) ?_).2.2; exact (by (with_reducible repeat (first | apply Kd.R_alloc | apply Kd.R_drewN | apply Kd.R_drew)); exact (Kd.R_mono (Kd.R_far (p := ⟨gb386, 2, none⟩) (Kd.R_far (p := ⟨gb386, 1, none⟩) (Kd.R_far (p := ⟨gb386, 0, none⟩) (Kd.R_types HO378.out BK386.out (by decide)) (fun _ hk => hk.2) (.slice Ao18 t376.length co18)) (fun _ hk => hk.2) (.int .i64 t379)) (fun _ hk => hk.2) (.int .i64 t380)) (fun _ h_ => h_.1)))); (case side2 => exact (Kd.R_reads' HO378.out).2.1); rintro e w20 ⟨v388, rfl, ho0, hb⟩; have n0_ := Aside0.mk (Kd.R_elder' (by (with_reducible repeat (first | apply Kd.R_alloc | apply Kd.R_drewN | apply Kd.R_drew)); exact (Kd.R_mono (Kd.R_far (p := ⟨gb386, 2, none⟩) (Kd.R_far (p := ⟨gb386, 1, none⟩) (Kd.R_far (p := ⟨gb386, 0, none⟩) (Kd.R_types HO378.out BK386.out (by decide)) (fun _ hk => hk.2) (.slice Ao18 t376.length co18)) (fun _ hk => hk.2) (.int .i64 t379)) (fun _ hk => hk.2) (.int .i64 t380)) (fun _ h_ => h_.1))) (Kd.R_base ho0) hb); have n1_ := Aside0.mk (Kd.R_elder' (by (with_reducible repeat (first | apply Kd.R_alloc | apply Kd.R_drewN | apply Kd.R_drew)); exact (Kd.R_mono (Kd.R_far (p := ⟨gb386, 2, none⟩) (Kd.R_far (p := ⟨gb386, 1, none⟩) (Kd.R_far (p := ⟨gb386, 0, none⟩) (Kd.R_types HO383.out BK386.out (by decide)) (fun _ hk => hk.2) (.slice Ao18 t376.length co18)) (fun _ hk => hk.2) (.int .i64 t379)) (fun _ hk => hk.2) (.int .i64 t380)) (fun _ h_ => h_.1))) (Kd.R_base ho0) hb); have n2_ := Aside0.mk (Kd.R_lower (Kd.R_new' (Kd.R_new' ho0 (Kd.R_lt (by (with_reducible repeat (first | apply Kd.R_alloc | apply Kd.R_drewN | apply Kd.R_drew)); exact (Kd.R_mono (Kd.R_far (p := ⟨gb386, 2, none⟩) (Kd.R_far (p := ⟨gb386, 1, none⟩) (Kd.R_far (p := ⟨gb386, 0, none⟩) (Kd.R_types HO378.out BK386.out (by decide)) (fun _ hk => hk.2) (.slice Ao18 t376.length co18)) (fun _ hk => hk.2) (.int .i64 t379)) (fun _ hk => hk.2) (.int .i64 t380)) (fun _ h_ => h_.1))))) (Kd.R_lt (by (with_reducible repeat (first | apply Kd.R_alloc | apply Kd.R_drewN | apply Kd.R_drew)); exact (Kd.R_mono (Kd.R_far (p := ⟨gb386, 2, none⟩) (Kd.R_far (p := ⟨gb386, 1, none⟩) (Kd.R_far (p := ⟨gb386, 0, none⟩) (Kd.R_types HO383.out BK386.out (by decide)) (fun _ hk => hk.2) (.slice Ao18 t376.length co18)) (fun _ hk => hk.2) (.int .i64 t379)) (fun _ hk => hk.2) (.int .i64 t380)) (fun _ h_ => h_.1))))) (below_size (by repeat (first | (with_reducible first | exact HB.out | apply below_alloc | apply pw_below_drewN | apply below_drew1 | refine below_set ?_ GE386.out) | exact HB.out)))); have n3_ := Aside0.mk (blk_below (g := gb386) (o := .cells #[.slice Ao18 t376.length co18, .int .i64 t379, .int .i64 t380] 24 (0, 0)) (by (with_reducible repeat (first | refine blk_drewN ?_ _ | refine blk_drew ?_ | refine blk_alloc ?_ _)); refine blk_put (cs := #[.slice Ao18 t376.length co18, .int .i64 t379, .int .i64 0]) ?_ 2 _ rfl; (with_reducible repeat (first | refine blk_drewN ?_ _ | refine blk_drew ?_ | refine blk_alloc ?_ _)); refine blk_put (cs := #[.slice Ao18 t376.length co18, .int .i64 0, .int .i64 0]) ?_ 1 _ rfl; (with_reducible repeat (first | refine blk_drewN ?_ _ | refine blk_drew ?_ | refine blk_alloc ?_ _)); refine blk_put (cs := #[.slice none 0 0, .int .i64 0, .int .i64 0]) ?_ 0 _ rfl; (with_reducible repeat (first | refine blk_drewN ?_ _ | refine blk_drew ?_ | refine blk_alloc ?_ _)); exact BK386.out) hb); have n4_ := Aside0.mk (below_step (by repeat (first | (with_reducible first | exact HB.out | apply below_alloc | apply pw_below_drewN | apply below_drew1 | refine below_set ?_ GE386.out) | exact HB.out)) hb); clear HO378; clear HO383; clear BK386; clear HB; have HO378 := n0_; have HO383 := n1_; have HO389 := n2_; have BK386 := n3_; have HB := n4_; clear n0_ n1_ n2_ n3_ n4_; (try clear hb); (try clear hb2); (try clear hk); (try clear hi); (try clear ho0))))
        go_loopg [10] kj2 (fun kq v10 w' => ∃ (x10_2 : Int), v10 = .int .i64 x10_2 ∧ Aside0 (trefoillaw12_DequeOnce.l0 kq t381 t384 t385 t387 x10_2 t376 t379 t380 = some r) ∧ Aside0 (kq ≤ kj2) ∧ Aside0 (Kd.R (Kd.int .i64) 3 w' w.heap.size (fun k_ => some k_ ≠ (v388 : Value).ownBlock ∧ some k_ ≠ ((.slice Ao18 t376.length co18) : Value).ownBlock) v382 t381) ∧ Aside0 (Kd.R (Kd.int .i64) 3 w' w.heap.size (fun k_ => some k_ ≠ (v382 : Value).ownBlock ∧ some k_ ≠ ((.slice Ao18 t376.length co18) : Value).ownBlock) v388 t387) ∧ Aside0 (Kd.R (Kd.int .i64) 3 w' w.heap.size (fun k_ => some k_ ≠ (v382 : Value).ownBlock ∧ some k_ ≠ (v388 : Value).ownBlock) (.slice Ao18 t376.length co18) t376) ∧ Aside0 (w'.heap[gb386]? = some (.cells #[(.slice Ao18 t376.length co18), .int .i64 t379, .int .i64 t380] 24 (0, 0))) ∧ Aside0 (Below w.heap.size w w'))
        case atStart => exact ⟨(1), (by first | rfl | (simp; done) | (simp [*]; done)), H', ⟨Nat.le_refl _⟩, ⟨by (with_reducible repeat (first | apply Kd.R_alloc | apply Kd.R_drewN | apply Kd.R_drew)); exact Kd.R_mono HO383.out (fun _ hk => ⟨hk.2, hk.1⟩)⟩, ⟨by (with_reducible repeat (first | apply Kd.R_alloc | apply Kd.R_drewN | apply Kd.R_drew)); exact Kd.R_mono HO389.out (fun _ hk => ⟨hk.2, hk.1.2⟩)⟩, ⟨by (with_reducible repeat (first | apply Kd.R_alloc | apply Kd.R_drewN | apply Kd.R_drew)); exact HO378.out⟩, ⟨by (with_reducible repeat (first | refine blk_drewN ?_ _ | refine blk_drew ?_ | refine blk_alloc ?_ _)); exact BK386.out⟩, ⟨by repeat (first | (with_reducible first | exact HB.out | apply below_alloc | apply pw_below_drewN | apply below_drew1 | refine below_set ?_ GE386.out) | exact HB.out)⟩⟩
        case round =>
          clear H'
          try clear c1
          try clear p2
          try clear c5
          try clear c6
          try clear c6b0
          try clear c6b1
          try clear c11
          try clear hcz19_0
          try clear hcz19_1
          try clear hcz19_2
          try clear hfz19_0
          try clear hfz19_1
          try clear hfz19_2
          try clear p2
          obtain ⟨x10_2, rfl, HA, HK2, HO_6, HO_9, HO_387000, BK386, HB⟩ := hrel
          cases gk with
          | zero => exact absurd HA.out (by simp [trefoillaw12_DequeOnce.l0])
          | succ k2 =>
            have H := HA.out
            clear HA
            simp only [trefoillaw12_DequeOnce.l0] at H
            by_cases c21 : x10_2 ≤ t384
            · rw [if_pos c21] at H
              have c21b0 : decide (x10_2 ≤ t384) = true := decide_eq_true c21
              clear c21
              have H' := Aside0.mk H
              clear H
              go_wp2
              repeat (go_quiet (fail); try go_wp2)
              go_loopg [11, 12] k2 (fun kq v11 v12 w' => ∃ (x11_3 : Int) (x12_3 : Int), v11 = .int .i64 x11_3 ∧ v12 = .int .i64 x12_3 ∧ Aside0 (trefoillaw12_DequeOnce.l1 kq t381 t384 t385 t387 x10_2 x11_3 x12_3 t376 t379 t380 = some r) ∧ Aside0 (kq ≤ k2) ∧ Aside0 (Kd.R (Kd.int .i64) 3 w' w.heap.size (fun k_ => some k_ ≠ (v388 : Value).ownBlock ∧ some k_ ≠ ((.slice Ao18 t376.length co18) : Value).ownBlock) v382 t381) ∧ Aside0 (Kd.R (Kd.int .i64) 3 w' w.heap.size (fun k_ => some k_ ≠ (v382 : Value).ownBlock ∧ some k_ ≠ ((.slice Ao18 t376.length co18) : Value).ownBlock) v388 t387) ∧ Aside0 (Kd.R (Kd.int .i64) 3 w' w.heap.size (fun k_ => some k_ ≠ (v382 : Value).ownBlock ∧ some k_ ≠ (v388 : Value).ownBlock) (.slice Ao18 t376.length co18) t376) ∧ Aside0 (w'.heap[gb386]? = some (.cells #[(.slice Ao18 t376.length co18), .int .i64 t379, .int .i64 t380] 24 (0, 0))) ∧ Aside0 (Below w.heap.size w w'))
              case atStart => exact ⟨(0), (0), (by first | rfl | (simp; done) | (simp [*]; done)), (by first | rfl | (simp; done) | (simp [*]; done)), H', ⟨Nat.le_refl _⟩, ⟨by (with_reducible repeat (first | apply Kd.R_alloc | apply Kd.R_drewN | apply Kd.R_drew)); exact HO_6.out⟩, ⟨by (with_reducible repeat (first | apply Kd.R_alloc | apply Kd.R_drewN | apply Kd.R_drew)); exact HO_9.out⟩, ⟨by (with_reducible repeat (first | apply Kd.R_alloc | apply Kd.R_drewN | apply Kd.R_drew)); exact HO_387000.out⟩, ⟨by (with_reducible repeat (first | refine blk_drewN ?_ _ | refine blk_drew ?_ | refine blk_alloc ?_ _)); exact BK386.out⟩, ⟨by repeat (first | (with_reducible first | exact HB.out | apply below_alloc | apply pw_below_drewN | apply below_drew1 | refine below_set ?_ GE386.out) | exact HB.out)⟩⟩
              case round =>
                clear H'
                try clear c1
                try clear c2
                try clear p2
                try clear c5
                try clear c6
                try clear c6b0
                try clear c6b1
                try clear c11
                try clear c21
                try clear c21b0
                try clear hcz19_0
                try clear hcz19_1
                try clear hcz19_2
                try clear hfz19_0
                try clear hfz19_1
                try clear hfz19_2
                try clear p2
                obtain ⟨x11_3, x12_3, rfl, rfl, HA, HK3, HO_6, HO_9, HO_387000, BK386, HB⟩ := hrel
                cases gk with
                | zero => exact absurd HA.out (by simp [trefoillaw12_DequeOnce.l1])
                | succ k3 =>
                  have H := HA.out
                  clear HA
                  simp only [trefoillaw12_DequeOnce.l1] at H
                  by_cases c22 : x12_3 < (t381.length : Int)
                  · rw [if_pos c22] at H
                    have c22b0 : decide (x12_3 < (t381.length : Int)) = true := decide_eq_true c22
                    clear c22
                    by_cases c23 : 0 ≤ x12_3
                    · rw [if_pos c23] at H
                      have c23b0 : decide (0 ≤ x12_3) = true := decide_eq_true c23
                      clear c23
                      by_cases c24 : (rd t381 x12_3) = x10_2
                      · rw [if_pos c24] at H
                        have c24b0 : ((rd t381 x12_3) == x10_2) = true := beq_iff_eq.mpr c24
                        have c24b1 : ((rd t381 x12_3) != x10_2) = false := bne_eq_false_iff_eq.mpr c24
                        clear c24
                        have H' := Aside0.mk H
                        clear H
                        obtain ⟨Ao25, co25, eo25⟩ := Kd.R_slice HO_6.out
                        subst eo25
                        have p390 : 0 ≤ (x12_3 : Int) := of_decide_eq_true (by first | (with_reducible assumption) | assumption)
                        have q390 : x12_3 < (t381.length : Int) := of_decide_eq_true (by first | (with_reducible assumption) | assumption)
                        obtain ⟨ad390, e390, hx390_0⟩ := Kd.at_int (Kd.R_reads' HO_6.out).2.2 x12_3 p390 q390
                        cases e390
                        replace p390 := eq_true p390
                        replace q390 := eq_true q390
                        go_wp2
                        repeat (go_quiet (fail); try go_wp2)
                        go_roundg k3
                        case measure => have := HJ2.out; have := HK2.out; have := HK3.out; omega
                        case rel => exact ⟨(wrap64 (x11_3 + 1)), (wrap64 (x12_3 + 1)), (by first | rfl | (simp; done) | (simp [*]; done)), (by first | rfl | (simp; done) | (simp [*]; done)), H', ⟨by have := HJ2.out; have := HK2.out; have := HK3.out; omega⟩, ⟨by (with_reducible repeat (first | apply Kd.R_alloc | apply Kd.R_drewN | apply Kd.R_drew)); exact HO_6.out⟩, ⟨by (with_reducible repeat (first | apply Kd.R_alloc | apply Kd.R_drewN | apply Kd.R_drew)); exact HO_9.out⟩, ⟨by (with_reducible repeat (first | apply Kd.R_alloc | apply Kd.R_drewN | apply Kd.R_drew)); exact HO_387000.out⟩, ⟨by (with_reducible repeat (first | refine blk_drewN ?_ _ | refine blk_drew ?_ | refine blk_alloc ?_ _)); exact BK386.out⟩, ⟨by repeat (first | (with_reducible first | exact HB.out | apply below_alloc | apply pw_below_drewN | apply below_drew1 | refine below_set ?_ GE386.out) | exact HB.out)⟩⟩
                      · rw [if_neg c24] at H
                        have c24b0 : ((rd t381 x12_3) == x10_2) = false := beq_eq_false_iff_ne.mpr c24
                        have c24b1 : ((rd t381 x12_3) != x10_2) = true := bne_iff_ne.mpr c24
                        have H' := Aside0.mk H
                        clear H
                        obtain ⟨Ao26, co26, eo26⟩ := Kd.R_slice HO_6.out
                        subst eo26
                        have p390 : 0 ≤ (x12_3 : Int) := of_decide_eq_true (by first | (with_reducible assumption) | assumption)
                        have q390 : x12_3 < (t381.length : Int) := of_decide_eq_true (by first | (with_reducible assumption) | assumption)
                        obtain ⟨ad390, e390, hx390_0⟩ := Kd.at_int (Kd.R_reads' HO_6.out).2.2 x12_3 p390 q390
                        cases e390
                        replace p390 := eq_true p390
                        replace q390 := eq_true q390
                        go_wp2
                        repeat (go_quiet (fail); try go_wp2)
                        go_roundg k3
                        case measure => have := HJ2.out; have := HK2.out; have := HK3.out; omega
                        case rel => exact ⟨(x11_3), (wrap64 (x12_3 + 1)), (by first | rfl | (simp; done) | (simp [*]; done)), (by first | rfl | (simp; done) | (simp [*]; done)), H', ⟨by have := HJ2.out; have := HK2.out; have := HK3.out; omega⟩, ⟨by (with_reducible repeat (first | apply Kd.R_alloc | apply Kd.R_drewN | apply Kd.R_drew)); exact HO_6.out⟩, ⟨by (with_reducible repeat (first | apply Kd.R_alloc | apply Kd.R_drewN | apply Kd.R_drew)); exact HO_9.out⟩, ⟨by (with_reducible repeat (first | apply Kd.R_alloc | apply Kd.R_drewN | apply Kd.R_drew)); exact HO_387000.out⟩, ⟨by (with_reducible repeat (first | refine blk_drewN ?_ _ | refine blk_drew ?_ | refine blk_alloc ?_ _)); exact BK386.out⟩, ⟨by repeat (first | (with_reducible first | exact HB.out | apply below_alloc | apply pw_below_drewN | apply below_drew1 | refine below_set ?_ GE386.out) | exact HB.out)⟩⟩
                    · rw [if_neg c23] at H
                      exact absurd H (by simp)
                  · rw [if_neg c22] at H
                    have c22b0 : decide (x12_3 < (t381.length : Int)) = false := decide_eq_false c22
                    clear c22
                    replace H := Option.bind_eq_some_iff.mp H
                    obtain ⟨t391, A270, H⟩ := H
                    replace H : (if t391 = true then (if (wrap64 (x11_3 + 1)) = 1 then (trefoillaw12_DequeOnce.l0 k3 t381 t384 t385 t387 (wrap64 (x10_2 + 1)) t376 t379 t380) else (some false)) else (if x11_3 = 1 then (trefoillaw12_DequeOnce.l0 k3 t381 t384 t385 t387 (wrap64 (x10_2 + 1)) t376 t379 t380) else (some false))) = some r := H
                    have A27 := Aside0.mk A270
                    clear A270
                    by_cases c28 : t391 = true
                    · subst c28
                      have H1 : (if (wrap64 (x11_3 + 1)) = 1 then (trefoillaw12_DequeOnce.l0 k3 t381 t384 t385 t387 (wrap64 (x10_2 + 1)) t376 t379 t380) else (some false)) = some r := by rw [if_pos rfl] at H; exact H
                      clear H
                      have H := H1
                      clear H1
                      by_cases c29 : (wrap64 (x11_3 + 1)) = 1
                      · rw [if_pos c29] at H
                        have c29b0 : ((wrap64 (x11_3 + 1)) == 1) = true := beq_iff_eq.mpr c29
                        have c29b1 : ((wrap64 (x11_3 + 1)) != 1) = false := bne_eq_false_iff_eq.mpr c29
                        clear c29
                        have H' := Aside0.mk H
                        clear H
                        obtain ⟨Ao30, co30, eo30⟩ := Kd.R_slice HO_6.out
                        subst eo30
                        obtain ⟨Ao31, co31, eo31⟩ := Kd.R_slice HO_9.out
                        subst eo31
                        go_wp2_with (first | (go_at_call 26; (with_reducible refine (trefoilref04_Has.calls k3 _ _ t387 x10_2 true _ ?side1 ?side2 A27.out).mono ?_); (case side1 => repeat (first | exact (Kd.R_reads' HO_9.out).2.2 | (with_reducible refine Kd.C_alloc ?_ _) | (with_reducible refine Kd.C_drewN ?_ _) | (with_reducible refine Kd.C_drew ?_))); (case side2 => exact (Kd.R_reads' HO_9.out).2.1); rintro e w' ⟨rfl, ⟨nd, rfl⟩⟩; (try first | exact ⟨rfl, _, World.drewN_drewN _ _ _⟩ | exact ⟨rfl, _, Eq.trans (World.drewN_drewN _ _ _) (congrArg (World.drewN _) (Nat.add_assoc _ _ _))⟩)))
                        repeat (go_quiet (first | (go_at_call 26; (with_reducible refine (trefoilref04_Has.calls k3 _ _ t387 x10_2 true _ ?side1 ?side2 A27.out).mono ?_); (case side1 => repeat (first | exact (Kd.R_reads' HO_9.out).2.2 | (with_reducible refine Kd.C_alloc ?_ _) | (with_reducible refine Kd.C_drewN ?_ _) | (with_reducible refine Kd.C_drew ?_))); (case side2 => exact (Kd.R_reads' HO_9.out).2.1); rintro e w' ⟨rfl, ⟨nd, rfl⟩⟩; (try first | exact ⟨rfl, _, World.drewN_drewN _ _ _⟩ | exact ⟨rfl, _, Eq.trans (World.drewN_drewN _ _ _) (congrArg (World.drewN _) (Nat.add_assoc _ _ _))⟩))); try go_wp2_with (first | (go_at_call 26; (with_reducible refine (trefoilref04_Has.calls k3 _ _ t387 x10_2 true _ ?side1 ?side2 A27.out).mono ?_); (case side1 => repeat (first | exact (Kd.R_reads' HO_9.out).2.2 | (with_reducible refine Kd.C_alloc ?_ _) | (with_reducible refine Kd.C_drewN ?_ _) | (with_reducible refine Kd.C_drew ?_))); (case side2 => exact (Kd.R_reads' HO_9.out).2.1); rintro e w' ⟨rfl, ⟨nd, rfl⟩⟩; (try first | exact ⟨rfl, _, World.drewN_drewN _ _ _⟩ | exact ⟨rfl, _, Eq.trans (World.drewN_drewN _ _ _) (congrArg (World.drewN _) (Nat.add_assoc _ _ _))⟩))))
                        go_roundg k3
                        case measure => have := HJ2.out; have := HK2.out; have := HK3.out; omega
                        case rel => exact ⟨(wrap64 (x10_2 + 1)), (by first | rfl | (simp; done) | (simp [*]; done)), H', ⟨by have := HJ2.out; have := HK2.out; have := HK3.out; omega⟩, ⟨by (with_reducible repeat (first | apply Kd.R_alloc | apply Kd.R_drewN | apply Kd.R_drew)); exact HO_6.out⟩, ⟨by (with_reducible repeat (first | apply Kd.R_alloc | apply Kd.R_drewN | apply Kd.R_drew)); exact HO_9.out⟩, ⟨by (with_reducible repeat (first | apply Kd.R_alloc | apply Kd.R_drewN | apply Kd.R_drew)); exact HO_387000.out⟩, ⟨by (with_reducible repeat (first | refine blk_drewN ?_ _ | refine blk_drew ?_ | refine blk_alloc ?_ _)); exact BK386.out⟩, ⟨by repeat (first | (with_reducible first | exact HB.out | apply below_alloc | apply pw_below_drewN | apply below_drew1 | refine below_set ?_ GE386.out) | exact HB.out)⟩⟩
                      · rw [if_neg c29] at H
                        have c29b0 : ((wrap64 (x11_3 + 1)) == 1) = false := beq_eq_false_iff_ne.mpr c29
                        have c29b1 : ((wrap64 (x11_3 + 1)) != 1) = true := bne_iff_ne.mpr c29
                        obtain rfl := Option.some.inj H
                        obtain ⟨Ao32, co32, eo32⟩ := Kd.R_slice HO_6.out
                        subst eo32
                        obtain ⟨Ao33, co33, eo33⟩ := Kd.R_slice HO_9.out
                        subst eo33
                        go_wp2_with (first | (go_at_call 26; (with_reducible refine (trefoilref04_Has.calls k3 _ _ t387 x10_2 true _ ?side1 ?side2 A27.out).mono ?_); (case side1 => repeat (first | exact (Kd.R_reads' HO_9.out).2.2 | (with_reducible refine Kd.C_alloc ?_ _) | (with_reducible refine Kd.C_drewN ?_ _) | (with_reducible refine Kd.C_drew ?_))); (case side2 => exact (Kd.R_reads' HO_9.out).2.1); rintro e w' ⟨rfl, ⟨nd, rfl⟩⟩; (try first | exact ⟨rfl, _, World.drewN_drewN _ _ _⟩ | exact ⟨rfl, _, Eq.trans (World.drewN_drewN _ _ _) (congrArg (World.drewN _) (Nat.add_assoc _ _ _))⟩)))
                        repeat (go_quiet (first | (go_at_call 26; (with_reducible refine (trefoilref04_Has.calls k3 _ _ t387 x10_2 true _ ?side1 ?side2 A27.out).mono ?_); (case side1 => repeat (first | exact (Kd.R_reads' HO_9.out).2.2 | (with_reducible refine Kd.C_alloc ?_ _) | (with_reducible refine Kd.C_drewN ?_ _) | (with_reducible refine Kd.C_drew ?_))); (case side2 => exact (Kd.R_reads' HO_9.out).2.1); rintro e w' ⟨rfl, ⟨nd, rfl⟩⟩; (try first | exact ⟨rfl, _, World.drewN_drewN _ _ _⟩ | exact ⟨rfl, _, Eq.trans (World.drewN_drewN _ _ _) (congrArg (World.drewN _) (Nat.add_assoc _ _ _))⟩))); try go_wp2_with (first | (go_at_call 26; (with_reducible refine (trefoilref04_Has.calls k3 _ _ t387 x10_2 true _ ?side1 ?side2 A27.out).mono ?_); (case side1 => repeat (first | exact (Kd.R_reads' HO_9.out).2.2 | (with_reducible refine Kd.C_alloc ?_ _) | (with_reducible refine Kd.C_drewN ?_ _) | (with_reducible refine Kd.C_drew ?_))); (case side2 => exact (Kd.R_reads' HO_9.out).2.1); rintro e w' ⟨rfl, ⟨nd, rfl⟩⟩; (try first | exact ⟨rfl, _, World.drewN_drewN _ _ _⟩ | exact ⟨rfl, _, Eq.trans (World.drewN_drewN _ _ _) (congrArg (World.drewN _) (Nat.add_assoc _ _ _))⟩))))
                        go_ret
                        exact ⟨by first | rfl | (simp [errW_none, errW_some] <;> rfl) | (simp [*, errW_none, errW_some] <;> rfl), by repeat (first | (with_reducible first | exact HB.out | apply below_alloc | apply pw_below_drewN | apply below_drew1 | refine below_set ?_ GE386.out) | exact HB.out)⟩
                    · replace c28 := Bool.eq_false_iff.mpr c28
                      subst c28
                      have H1 : (if x11_3 = 1 then (trefoillaw12_DequeOnce.l0 k3 t381 t384 t385 t387 (wrap64 (x10_2 + 1)) t376 t379 t380) else (some false)) = some r := by rw [if_neg (show ¬ (false = true) by decide)] at H; exact H
                      clear H
                      have H := H1
                      clear H1
                      by_cases c34 : x11_3 = 1
                      · rw [if_pos c34] at H
                        have c34b0 : (x11_3 == 1) = true := beq_iff_eq.mpr c34
                        have c34b1 : (x11_3 != 1) = false := bne_eq_false_iff_eq.mpr c34
                        clear c34
                        have H' := Aside0.mk H
                        clear H
                        obtain ⟨Ao35, co35, eo35⟩ := Kd.R_slice HO_6.out
                        subst eo35
                        obtain ⟨Ao36, co36, eo36⟩ := Kd.R_slice HO_9.out
                        subst eo36
                        go_wp2_with (first | (go_at_call 26; (with_reducible refine (trefoilref04_Has.calls k3 _ _ t387 x10_2 false _ ?side1 ?side2 A27.out).mono ?_); (case side1 => repeat (first | exact (Kd.R_reads' HO_9.out).2.2 | (with_reducible refine Kd.C_alloc ?_ _) | (with_reducible refine Kd.C_drewN ?_ _) | (with_reducible refine Kd.C_drew ?_))); (case side2 => exact (Kd.R_reads' HO_9.out).2.1); rintro e w' ⟨rfl, ⟨nd, rfl⟩⟩; (try first | exact ⟨rfl, _, World.drewN_drewN _ _ _⟩ | exact ⟨rfl, _, Eq.trans (World.drewN_drewN _ _ _) (congrArg (World.drewN _) (Nat.add_assoc _ _ _))⟩)))
                        repeat (go_quiet (first | (go_at_call 26; (with_reducible refine (trefoilref04_Has.calls k3 _ _ t387 x10_2 false _ ?side1 ?side2 A27.out).mono ?_); (case side1 => repeat (first | exact (Kd.R_reads' HO_9.out).2.2 | (with_reducible refine Kd.C_alloc ?_ _) | (with_reducible refine Kd.C_drewN ?_ _) | (with_reducible refine Kd.C_drew ?_))); (case side2 => exact (Kd.R_reads' HO_9.out).2.1); rintro e w' ⟨rfl, ⟨nd, rfl⟩⟩; (try first | exact ⟨rfl, _, World.drewN_drewN _ _ _⟩ | exact ⟨rfl, _, Eq.trans (World.drewN_drewN _ _ _) (congrArg (World.drewN _) (Nat.add_assoc _ _ _))⟩))); try go_wp2_with (first | (go_at_call 26; (with_reducible refine (trefoilref04_Has.calls k3 _ _ t387 x10_2 false _ ?side1 ?side2 A27.out).mono ?_); (case side1 => repeat (first | exact (Kd.R_reads' HO_9.out).2.2 | (with_reducible refine Kd.C_alloc ?_ _) | (with_reducible refine Kd.C_drewN ?_ _) | (with_reducible refine Kd.C_drew ?_))); (case side2 => exact (Kd.R_reads' HO_9.out).2.1); rintro e w' ⟨rfl, ⟨nd, rfl⟩⟩; (try first | exact ⟨rfl, _, World.drewN_drewN _ _ _⟩ | exact ⟨rfl, _, Eq.trans (World.drewN_drewN _ _ _) (congrArg (World.drewN _) (Nat.add_assoc _ _ _))⟩))))
                        go_roundg k3
                        case measure => have := HJ2.out; have := HK2.out; have := HK3.out; omega
                        case rel => exact ⟨(wrap64 (x10_2 + 1)), (by first | rfl | (simp; done) | (simp [*]; done)), H', ⟨by have := HJ2.out; have := HK2.out; have := HK3.out; omega⟩, ⟨by (with_reducible repeat (first | apply Kd.R_alloc | apply Kd.R_drewN | apply Kd.R_drew)); exact HO_6.out⟩, ⟨by (with_reducible repeat (first | apply Kd.R_alloc | apply Kd.R_drewN | apply Kd.R_drew)); exact HO_9.out⟩, ⟨by (with_reducible repeat (first | apply Kd.R_alloc | apply Kd.R_drewN | apply Kd.R_drew)); exact HO_387000.out⟩, ⟨by (with_reducible repeat (first | refine blk_drewN ?_ _ | refine blk_drew ?_ | refine blk_alloc ?_ _)); exact BK386.out⟩, ⟨by repeat (first | (with_reducible first | exact HB.out | apply below_alloc | apply pw_below_drewN | apply below_drew1 | refine below_set ?_ GE386.out) | exact HB.out)⟩⟩
                      · rw [if_neg c34] at H
                        have c34b0 : (x11_3 == 1) = false := beq_eq_false_iff_ne.mpr c34
                        have c34b1 : (x11_3 != 1) = true := bne_iff_ne.mpr c34
                        obtain rfl := Option.some.inj H
                        obtain ⟨Ao37, co37, eo37⟩ := Kd.R_slice HO_6.out
                        subst eo37
                        obtain ⟨Ao38, co38, eo38⟩ := Kd.R_slice HO_9.out
                        subst eo38
                        go_wp2_with (first | (go_at_call 26; (with_reducible refine (trefoilref04_Has.calls k3 _ _ t387 x10_2 false _ ?side1 ?side2 A27.out).mono ?_); (case side1 => repeat (first | exact (Kd.R_reads' HO_9.out).2.2 | (with_reducible refine Kd.C_alloc ?_ _) | (with_reducible refine Kd.C_drewN ?_ _) | (with_reducible refine Kd.C_drew ?_))); (case side2 => exact (Kd.R_reads' HO_9.out).2.1); rintro e w' ⟨rfl, ⟨nd, rfl⟩⟩; (try first | exact ⟨rfl, _, World.drewN_drewN _ _ _⟩ | exact ⟨rfl, _, Eq.trans (World.drewN_drewN _ _ _) (congrArg (World.drewN _) (Nat.add_assoc _ _ _))⟩)))
                        repeat (go_quiet (first | (go_at_call 26; (with_reducible refine (trefoilref04_Has.calls k3 _ _ t387 x10_2 false _ ?side1 ?side2 A27.out).mono ?_); (case side1 => repeat (first | exact (Kd.R_reads' HO_9.out).2.2 | (with_reducible refine Kd.C_alloc ?_ _) | (with_reducible refine Kd.C_drewN ?_ _) | (with_reducible refine Kd.C_drew ?_))); (case side2 => exact (Kd.R_reads' HO_9.out).2.1); rintro e w' ⟨rfl, ⟨nd, rfl⟩⟩; (try first | exact ⟨rfl, _, World.drewN_drewN _ _ _⟩ | exact ⟨rfl, _, Eq.trans (World.drewN_drewN _ _ _) (congrArg (World.drewN _) (Nat.add_assoc _ _ _))⟩))); try go_wp2_with (first | (go_at_call 26; (with_reducible refine (trefoilref04_Has.calls k3 _ _ t387 x10_2 false _ ?side1 ?side2 A27.out).mono ?_); (case side1 => repeat (first | exact (Kd.R_reads' HO_9.out).2.2 | (with_reducible refine Kd.C_alloc ?_ _) | (with_reducible refine Kd.C_drewN ?_ _) | (with_reducible refine Kd.C_drew ?_))); (case side2 => exact (Kd.R_reads' HO_9.out).2.1); rintro e w' ⟨rfl, ⟨nd, rfl⟩⟩; (try first | exact ⟨rfl, _, World.drewN_drewN _ _ _⟩ | exact ⟨rfl, _, Eq.trans (World.drewN_drewN _ _ _) (congrArg (World.drewN _) (Nat.add_assoc _ _ _))⟩))))
                        go_ret
                        exact ⟨by first | rfl | (simp [errW_none, errW_some] <;> rfl) | (simp [*, errW_none, errW_some] <;> rfl), by repeat (first | (with_reducible first | exact HB.out | apply below_alloc | apply pw_below_drewN | apply below_drew1 | refine below_set ?_ GE386.out) | exact HB.out)⟩
            · rw [if_neg c21] at H
              have c21b0 : decide (x10_2 ≤ t384) = false := decide_eq_false c21
              clear c21
              have H' := Aside0.mk H
              clear H
              go_wp2
              repeat (go_quiet (fail); try go_wp2)
              go_loopg [13] k2 (fun kq v13 w' => ∃ (x13_3 : Int), v13 = .int .i64 x13_3 ∧ Aside0 (trefoillaw12_DequeOnce.l2 kq t381 t384 t385 t387 x13_3 t376 t379 t380 = some r) ∧ Aside0 (kq ≤ k2) ∧ Aside0 (Kd.R (Kd.int .i64) 3 w' w.heap.size (fun k_ => some k_ ≠ (v388 : Value).ownBlock ∧ some k_ ≠ ((.slice Ao18 t376.length co18) : Value).ownBlock) v382 t381) ∧ Aside0 (Kd.R (Kd.int .i64) 3 w' w.heap.size (fun k_ => some k_ ≠ (v382 : Value).ownBlock ∧ some k_ ≠ ((.slice Ao18 t376.length co18) : Value).ownBlock) v388 t387) ∧ Aside0 (Kd.R (Kd.int .i64) 3 w' w.heap.size (fun k_ => some k_ ≠ (v382 : Value).ownBlock ∧ some k_ ≠ (v388 : Value).ownBlock) (.slice Ao18 t376.length co18) t376) ∧ Aside0 (w'.heap[gb386]? = some (.cells #[(.slice Ao18 t376.length co18), .int .i64 t379, .int .i64 t380] 24 (0, 0))) ∧ Aside0 (Below w.heap.size w w'))
              case atStart => exact ⟨(1), (by first | rfl | (simp; done) | (simp [*]; done)), H', ⟨Nat.le_refl _⟩, ⟨by (with_reducible repeat (first | apply Kd.R_alloc | apply Kd.R_drewN | apply Kd.R_drew)); exact HO_6.out⟩, ⟨by (with_reducible repeat (first | apply Kd.R_alloc | apply Kd.R_drewN | apply Kd.R_drew)); exact HO_9.out⟩, ⟨by (with_reducible repeat (first | apply Kd.R_alloc | apply Kd.R_drewN | apply Kd.R_drew)); exact HO_387000.out⟩, ⟨by (with_reducible repeat (first | refine blk_drewN ?_ _ | refine blk_drew ?_ | refine blk_alloc ?_ _)); exact BK386.out⟩, ⟨by repeat (first | (with_reducible first | exact HB.out | apply below_alloc | apply pw_below_drewN | apply below_drew1 | refine below_set ?_ GE386.out) | exact HB.out)⟩⟩
              case round =>
                clear H'
                try clear c1
                try clear c2
                try clear p2
                try clear c3
                try clear p3
                try clear q3
                try clear hx3
                try clear c5
                try clear c6
                try clear c6b0
                try clear c6b1
                try clear p6
                try clear c11
                try clear c21
                try clear c21b0
                try clear c22
                try clear c22b0
                try clear c23
                try clear c23b0
                try clear c24
                try clear c24b0
                try clear c24b1
                try clear c28
                try clear c29
                try clear c29b0
                try clear c29b1
                try clear c34
                try clear c34b0
                try clear c34b1
                try clear hcz19_0
                try clear hcz19_1
                try clear hcz19_2
                try clear hfz19_0
                try clear hfz19_1
                try clear hfz19_2
                try clear hx390_0
                try clear p2
                try clear p390
                try clear q390
                obtain ⟨x13_3, rfl, HA, HK3, HO_6, HO_9, HO_387000, BK386, HB⟩ := hrel
                cases gk with
                | zero => exact absurd HA.out (by simp [trefoillaw12_DequeOnce.l2])
                | succ k3 =>
                  have H := HA.out
                  clear HA
                  simp only [trefoillaw12_DequeOnce.l2] at H
                  by_cases c39 : x13_3 < (t387.length : Int)
                  · rw [if_pos c39] at H
                    have c39b0 : decide (x13_3 < (t387.length : Int)) = true := decide_eq_true c39
                    clear c39
                    obtain ⟨ji40, hji40⟩ : ∃ j_ : Int, (wrap64 (x13_3 - 1)) = j_ := ⟨_, rfl⟩
                    replace H : (if 0 ≤ (ji40) then (if (ji40) < (t387.length : Int) then (if 0 ≤ x13_3 then (if (rd t387 (ji40)) ≥ (rd t387 x13_3) then (some false) else (trefoillaw12_DequeOnce.l2 k3 t381 t384 t385 t387 (wrap64 (x13_3 + 1)) t376 t379 t380)) else (none)) else (none)) else (none)) = some r := by first | (rw [hji40] at H; exact H) | (simp only [hji40] at H ⊢; exact H)
                    have hji40w : (IntKind.i64.wrap (x13_3 - 1)) = ji40 := (i64_w _).trans hji40
                    by_cases c41 : 0 ≤ (ji40)
                    · rw [if_pos c41] at H
                      have c41b0 : decide (0 ≤ (ji40)) = true := decide_eq_true c41
                      clear c41
                      by_cases c42 : (ji40) < (t387.length : Int)
                      · rw [if_pos c42] at H
                        have c42b0 : decide ((ji40) < (t387.length : Int)) = true := decide_eq_true c42
                        clear c42
                        by_cases c43 : 0 ≤ x13_3
                        · rw [if_pos c43] at H
                          have c43b0 : decide (0 ≤ x13_3) = true := decide_eq_true c43
                          clear c43
                          by_cases c44 : (rd t387 (ji40)) ≥ (rd t387 x13_3)
                          · rw [if_pos c44] at H
                            have c44b0 : decide ((rd t387 x13_3) ≤ (rd t387 (ji40))) = true := decide_eq_true c44
                            clear c44
                            obtain rfl := Option.some.inj H
                            obtain ⟨Ao45, co45, eo45⟩ := Kd.R_slice HO_9.out
                            subst eo45
                            have p392 : 0 ≤ ((ji40) : Int) := of_decide_eq_true (by first | (with_reducible assumption) | assumption)
                            have q392 : (ji40) < (t387.length : Int) := of_decide_eq_true (by first | (with_reducible assumption) | assumption)
                            obtain ⟨ad392, e392, hx392_0⟩ := Kd.at_int (Kd.R_reads' HO_9.out).2.2 (ji40) p392 q392
                            cases e392
                            replace p392 := eq_true p392
                            replace q392 := eq_true q392
                            have p393 : 0 ≤ (x13_3 : Int) := of_decide_eq_true (by first | (with_reducible assumption) | assumption)
                            have q393 : x13_3 < (t387.length : Int) := of_decide_eq_true (by first | (with_reducible assumption) | assumption)
                            obtain ⟨ad393, e393, hx393_0⟩ := Kd.at_int (Kd.R_reads' HO_9.out).2.2 x13_3 p393 q393
                            obtain rfl : ad392 = ad393 := (by injection e393)
                            replace p393 := eq_true p393
                            replace q393 := eq_true q393
                            go_wp2
                            repeat (go_quiet (fail); try go_wp2)
                            go_ret
                            exact ⟨by first | rfl | (simp [errW_none, errW_some] <;> rfl) | (simp only [← hji40]; first | rfl | (simp [errW_none, errW_some] <;> rfl)) | (simp [*, errW_none, errW_some] <;> rfl), by repeat (first | (with_reducible first | exact HB.out | apply below_alloc | apply pw_below_drewN | apply below_drew1 | refine below_set ?_ GE386.out) | exact HB.out)⟩
                          · rw [if_neg c44] at H
                            have c44b0 : decide ((rd t387 x13_3) ≤ (rd t387 (ji40))) = false := decide_eq_false c44
                            clear c44
                            have H' := Aside0.mk H
                            clear H
                            obtain ⟨Ao46, co46, eo46⟩ := Kd.R_slice HO_9.out
                            subst eo46
                            have p392 : 0 ≤ ((ji40) : Int) := of_decide_eq_true (by first | (with_reducible assumption) | assumption)
                            have q392 : (ji40) < (t387.length : Int) := of_decide_eq_true (by first | (with_reducible assumption) | assumption)
                            obtain ⟨ad392, e392, hx392_0⟩ := Kd.at_int (Kd.R_reads' HO_9.out).2.2 (ji40) p392 q392
                            cases e392
                            replace p392 := eq_true p392
                            replace q392 := eq_true q392
                            have p393 : 0 ≤ (x13_3 : Int) := of_decide_eq_true (by first | (with_reducible assumption) | assumption)
                            have q393 : x13_3 < (t387.length : Int) := of_decide_eq_true (by first | (with_reducible assumption) | assumption)
                            obtain ⟨ad393, e393, hx393_0⟩ := Kd.at_int (Kd.R_reads' HO_9.out).2.2 x13_3 p393 q393
                            obtain rfl : ad392 = ad393 := (by injection e393)
                            replace p393 := eq_true p393
                            replace q393 := eq_true q393
                            go_wp2
                            repeat (go_quiet (fail); try go_wp2)
                            go_roundg k3
                            case measure => have := HJ2.out; have := HK2.out; have := HK3.out; omega
                            case rel => exact ⟨(wrap64 (x13_3 + 1)), (by first | rfl | (simp; done) | (simp [*]; done)), H', ⟨by have := HJ2.out; have := HK2.out; have := HK3.out; omega⟩, ⟨by (with_reducible repeat (first | apply Kd.R_alloc | apply Kd.R_drewN | apply Kd.R_drew)); exact HO_6.out⟩, ⟨by (with_reducible repeat (first | apply Kd.R_alloc | apply Kd.R_drewN | apply Kd.R_drew)); exact HO_9.out⟩, ⟨by (with_reducible repeat (first | apply Kd.R_alloc | apply Kd.R_drewN | apply Kd.R_drew)); exact HO_387000.out⟩, ⟨by (with_reducible repeat (first | refine blk_drewN ?_ _ | refine blk_drew ?_ | refine blk_alloc ?_ _)); exact BK386.out⟩, ⟨by repeat (first | (with_reducible first | exact HB.out | apply below_alloc | apply pw_below_drewN | apply below_drew1 | refine below_set ?_ GE386.out) | exact HB.out)⟩⟩
                        · rw [if_neg c43] at H
                          exact absurd H (by simp)
                      · rw [if_neg c42] at H
                        exact absurd H (by simp)
                    · rw [if_neg c41] at H
                      exact absurd H (by simp)
                  · rw [if_neg c39] at H
                    have c39b0 : decide (x13_3 < (t387.length : Int)) = false := decide_eq_false c39
                    clear c39
                    by_cases c47 : t385 = true
                    · subst c47
                      have H1 : (if (wrap64 ((t381.length : Int) + (t387.length : Int))) = t384 then ((deque_Check.f t376 t379 t380).bind fun t394 => (some (t394 == 0))) else (none)) = some r := by rw [if_pos rfl] at H; exact H
                      clear H
                      have H := H1
                      clear H1
                      by_cases c48 : (wrap64 ((t381.length : Int) + (t387.length : Int))) = t384
                      · rw [if_pos c48] at H
                        have c48b0 : ((wrap64 ((t381.length : Int) + (t387.length : Int))) == t384) = true := beq_iff_eq.mpr c48
                        have c48b1 : ((wrap64 ((t381.length : Int) + (t387.length : Int))) != t384) = false := bne_eq_false_iff_eq.mpr c48
                        clear c48
                        replace H := Option.bind_eq_some_iff.mp H
                        obtain ⟨t394, A490, H⟩ := H
                        replace H : (some (t394 == 0)) = some r := H
                        have A49 := Aside0.mk A490
                        clear A490
                        obtain rfl := Option.some.inj H
                        obtain ⟨Ao50, co50, eo50⟩ := Kd.R_slice HO_9.out
                        subst eo50
                        obtain ⟨Ao51, co51, eo51⟩ := Kd.R_slice HO_6.out
                        subst eo51
                        have hcz52_0 : wr.cell? ⟨gb386, 0, none⟩ = some (.slice Ao18 t376.length co18) := (blk_cell BK386.out 0).trans rfl
                        have hcz52_1 : wr.cell? ⟨gb386, 1, none⟩ = some (.int .i64 t379) := (blk_cell BK386.out 1).trans rfl
                        have hcz52_2 : wr.cell? ⟨gb386, 2, none⟩ = some (.int .i64 t380) := (blk_cell BK386.out 2).trans rfl
                        have hfz52_0 := blk_frozen BK386.out 0
                        have hfz52_1 := blk_frozen BK386.out 1
                        have hfz52_2 := blk_frozen BK386.out 2
                        go_wp2_with (first | (go_at_call 23; (with_reducible refine (deque_Check.calls _ _ t376 t379 t380 t394 _ ?side1 ?side2 A49.out).mono ?_); (case side1 => repeat (first | exact (Kd.R_reads' HO_387000.out).2.2 | (with_reducible refine Kd.C_alloc ?_ _) | (with_reducible refine Kd.C_drewN ?_ _) | (with_reducible refine Kd.C_drew ?_))); (case side2 => exact (Kd.R_reads' HO_387000.out).2.1); rintro e w53 ⟨rfl, hb⟩; have n0_ := Aside0.mk (Kd.R_below (by (with_reducible repeat (first | apply Kd.R_alloc | apply Kd.R_drewN | apply Kd.R_drew)); exact HO_6.out) hb); have n1_ := Aside0.mk (Kd.R_below (by (with_reducible repeat (first | apply Kd.R_alloc | apply Kd.R_drewN | apply Kd.R_drew)); exact HO_9.out) hb); have n2_ := Aside0.mk (Kd.R_below (by (with_reducible repeat (first | apply Kd.R_alloc | apply Kd.R_drewN | apply Kd.R_drew)); exact HO_387000.out) hb); have n3_ := Aside0.mk (blk_below (g := gb386) (o := .cells #[.slice Ao18 t376.length co18, .int .i64 t379, .int .i64 t380] 24 (0, 0)) (by (with_reducible repeat (first | refine blk_drewN ?_ _ | refine blk_drew ?_ | refine blk_alloc ?_ _)); exact BK386.out) hb); have n4_ := Aside0.mk (below_step (by repeat (first | (with_reducible first | exact HB.out | apply below_alloc | apply pw_below_drewN | apply below_drew1 | refine below_set ?_ GE386.out) | exact HB.out)) hb); clear HO_6; clear HO_9; clear HO_387000; clear BK386; clear HB; have HO_6 := n0_; have HO_9 := n1_; have HO_387000 := n2_; have BK386 := n3_; have HB := n4_; clear n0_ n1_ n2_ n3_ n4_; (try clear hb); (try clear hb2); (try clear hk); (try clear hi)))
                        repeat (go_quiet (first | (go_at_call 23; (with_reducible refine (deque_Check.calls _ _ t376 t379 t380 t394 _ ?side1 ?side2 A49.out).mono ?_); (case side1 => repeat (first | exact (Kd.R_reads' HO_387000.out).2.2 | (with_reducible refine Kd.C_alloc ?_ _) | (with_reducible refine Kd.C_drewN ?_ _) | (with_reducible refine Kd.C_drew ?_))); (case side2 => exact (Kd.R_reads' HO_387000.out).2.1); rintro e w53 ⟨rfl, hb⟩; have n0_ := Aside0.mk (Kd.R_below (by (with_reducible repeat (first | apply Kd.R_alloc | apply Kd.R_drewN | apply Kd.R_drew)); exact HO_6.out) hb); have n1_ := Aside0.mk (Kd.R_below (by (with_reducible repeat (first | apply Kd.R_alloc | apply Kd.R_drewN | apply Kd.R_drew)); exact HO_9.out) hb); have n2_ := Aside0.mk (Kd.R_below (by (with_reducible repeat (first | apply Kd.R_alloc | apply Kd.R_drewN | apply Kd.R_drew)); exact HO_387000.out) hb); have n3_ := Aside0.mk (blk_below (g := gb386) (o := .cells #[.slice Ao18 t376.length co18, .int .i64 t379, .int .i64 t380] 24 (0, 0)) (by (with_reducible repeat (first | refine blk_drewN ?_ _ | refine blk_drew ?_ | refine blk_alloc ?_ _)); exact BK386.out) hb); have n4_ := Aside0.mk (below_step (by repeat (first | (with_reducible first | exact HB.out | apply below_alloc | apply pw_below_drewN | apply below_drew1 | refine below_set ?_ GE386.out) | exact HB.out)) hb); clear HO_6; clear HO_9; clear HO_387000; clear BK386; clear HB; have HO_6 := n0_; have HO_9 := n1_; have HO_387000 := n2_; have BK386 := n3_; have HB := n4_; clear n0_ n1_ n2_ n3_ n4_; (try clear hb); (try clear hb2); (try clear hk); (try clear hi))); try go_wp2_with (first | (go_at_call 23; (with_reducible refine (deque_Check.calls _ _ t376 t379 t380 t394 _ ?side1 ?side2 A49.out).mono ?_); (case side1 => repeat (first | exact (Kd.R_reads' HO_387000.out).2.2 | (with_reducible refine Kd.C_alloc ?_ _) | (with_reducible refine Kd.C_drewN ?_ _) | (with_reducible refine Kd.C_drew ?_))); (case side2 => exact (Kd.R_reads' HO_387000.out).2.1); rintro e w53 ⟨rfl, hb⟩; have n0_ := Aside0.mk (Kd.R_below (by (with_reducible repeat (first | apply Kd.R_alloc | apply Kd.R_drewN | apply Kd.R_drew)); exact HO_6.out) hb); have n1_ := Aside0.mk (Kd.R_below (by (with_reducible repeat (first | apply Kd.R_alloc | apply Kd.R_drewN | apply Kd.R_drew)); exact HO_9.out) hb); have n2_ := Aside0.mk (Kd.R_below (by (with_reducible repeat (first | apply Kd.R_alloc | apply Kd.R_drewN | apply Kd.R_drew)); exact HO_387000.out) hb); have n3_ := Aside0.mk (blk_below (g := gb386) (o := .cells #[.slice Ao18 t376.length co18, .int .i64 t379, .int .i64 t380] 24 (0, 0)) (by (with_reducible repeat (first | refine blk_drewN ?_ _ | refine blk_drew ?_ | refine blk_alloc ?_ _)); exact BK386.out) hb); have n4_ := Aside0.mk (below_step (by repeat (first | (with_reducible first | exact HB.out | apply below_alloc | apply pw_below_drewN | apply below_drew1 | refine below_set ?_ GE386.out) | exact HB.out)) hb); clear HO_6; clear HO_9; clear HO_387000; clear BK386; clear HB; have HO_6 := n0_; have HO_9 := n1_; have HO_387000 := n2_; have BK386 := n3_; have HB := n4_; clear n0_ n1_ n2_ n3_ n4_; (try clear hb); (try clear hb2); (try clear hk); (try clear hi))))
                        go_ret
                        exact ⟨by first | rfl | (simp [errW_none, errW_some] <;> rfl) | (simp [*, errW_none, errW_some] <;> rfl), by repeat (first | (with_reducible first | exact HB.out | apply below_alloc | apply pw_below_drewN | apply below_drew1 | refine below_set ?_ GE386.out) | exact HB.out)⟩
                      · rw [if_neg c48] at H
                        exact absurd H (by simp)
                    · replace c47 := Bool.eq_false_iff.mpr c47
                      subst c47
                      have H1 : (none) = some r := by rw [if_neg (show ¬ (false = true) by decide)] at H; exact H
                      clear H
                      have H := H1
                      clear H1
                      exact absurd H (by simp)

end Go.Proofs.YtdmgigicbppjkaaDoor.Q
