-- PRINTED by print.py (a twelfth state) out of the translation. Not trusted: Lean checks it.
import Derived.Test.YtdmgigicbppjkaaDoorQx0
import Derived.Test.YtdmgigicbppjkaaDoorQx1
import Derived.Test.YtdmgigicbppjkaaDoorQx5
import Derived.Test.YtdmgigicbppjkaaDoorQx6
import Derived.Test.YtdmgigicbppjkaaDoorQx7
namespace Go.Proofs.YtdmgigicbppjkaaDoor.Q
open Go.RowKit Go.Proofs.YtdmgigicbppjkaaDoorW.PrintWords Go.Proofs.YtdmgigicbppjkaaDoorW.PrintLast Go.Proofs.YtdmgigicbppjkaaDoorW.PrintMore
attribute [local go_sem] max2_int min2_int max_two min_two max_three min_three max_four min_four   -- for this text's walks alone
set_option linter.unusedVariables false
set_option linter.unusedSimpArgs false

/-! ### trefoillaw12_DequePushes: function 7 -/
def trefoillaw12_DequePushes.j0 : Nat → Int → Bool → List Int → Int → Int → Option (Bool)
  | 0, _, _, _, _, _ => none
  | k + 1, x1, x16, x260000, x260001, x260002 => if x16 = true then ((trefoillaw12_awake.f k).bind fun t261 => (some t261)) else ((trefoillaw12_Own.f x260000 x260001 x260002).bind fun bt262 => ((deque_Push.f k bt262.1 bt262.2.1 bt262.2.2 x1).bind fun bt267 => (if bt267.2.2.2 = 0 then ((trefoillaw12_Own.f x260000 x260001 x260002).bind fun bt280 => ((deque_Items.f k bt280.1 bt280.2.1 bt280.2.2).bind fun t285 => ((trefoillaw12_Own.f bt267.1 bt267.2.1 bt267.2.2.1).bind fun bt288 => ((deque_Items.f k bt288.1 bt288.2.1 bt288.2.2).bind fun t293 => (if (t293.length : Int) = (wrap64 ((t285.length : Int) + 1)) then (if 0 ≤ (t285.length : Int) then (if (t285.length : Int) ≤ (t293.length : Int) then ((trefoilref02_Ints.f k (t293.take ((t285.length : Int) : Int).toNat) t285).bind fun t300 => (if t300 = true then (if (t285.length : Int) < (t293.length : Int) then (if (rd t293 (t285.length : Int)) = x1 then (if bt267.2.1 = x260001 then (if bt267.2.2.1 = (wrap64 (x260002 + 1)) then ((trefoillaw12_Own.f bt267.1 bt267.2.1 bt267.2.2.1).bind fun bt302 => ((deque_Check.f bt302.1 bt302.2.1 bt302.2.2).bind fun t307 => (some (t307 == 0)))) else (none)) else (none)) else (none)) else (none)) else (none))) else (none)) else (none)) else (none)))))) else (if (bt267.1.length : Int) = 0 then ((trefoillaw12_Own.f x260000 x260001 x260002).bind fun bt274 => ((deque_Check.f bt274.1 bt274.2.1 bt274.2.2).bind fun t279 => (some ((bt267.2.2.2 == 120) == (t279 != 0))))) else (none)))))
def trefoillaw12_DequePushes.f (k : Nat) (l0_0 : List Int) (a0_1 : Int) (a0_2 : Int) (a1 : Int) : Option (Bool) := (trefoillaw12_awake.f k).bind fun t260 => (if t260 = true then (trefoillaw12_DequePushes.j0 k a1 (decide ((l0_0.length : Int) > 130)) l0_0 a0_1 a0_2) else (trefoillaw12_DequePushes.j0 k a1 true l0_0 a0_1 a0_2))
theorem trefoillaw12_DequePushes.mono_l : ∀ k, (∀ y0 y1 y2 y3 y4, LeO (trefoillaw12_DequePushes.j0 k y0 y1 y2 y3 y4) (trefoillaw12_DequePushes.j0 (k + 1) y0 y1 y2 y3 y4))
  | 0 => fun _ _ _ _ _ r h => by simp [trefoillaw12_DequePushes.j0] at h
  | k + 1 => by
    have ih0 := trefoillaw12_DequePushes.mono_l k
    · intro y0 y1 y2 y3 y4
      unfold trefoillaw12_DequePushes.j0
      repeat' first
      | (with_reducible exact ih0 _ _ _ _ _)
      | (with_reducible exact deque_Items.mono _ _ _ _)
      | (with_reducible exact deque_Push.mono _ _ _ _ _)
      | (with_reducible exact trefoillaw12_awake.mono _)
      | (with_reducible exact trefoilref02_Ints.mono _ _ _)
      | (with_reducible exact LeO.refl _)
      | (with_reducible exact LeO.none _)
      | (with_reducible refine LeO.ite ?_ ?_)
      | (with_reducible refine LeO.bind ?_ (fun _ => ?_))
      | exact ih0 _ _ _ _ _
      | exact deque_Items.mono _ _ _ _
      | exact deque_Push.mono _ _ _ _ _
      | exact trefoillaw12_awake.mono _
      | exact trefoilref02_Ints.mono _ _ _
      | exact LeO.none _
      | refine LeO.ite ?_ ?_
      | refine LeO.bind ?_ (fun _ => ?_)
theorem trefoillaw12_DequePushes.mono : ∀ a0 a1 a2 a3 k, LeO (trefoillaw12_DequePushes.f k a0 a1 a2 a3) (trefoillaw12_DequePushes.f (k + 1) a0 a1 a2 a3) := by
  intro a0 a1 a2 a3 k
  have ih0 := trefoillaw12_DequePushes.mono_l k
  unfold trefoillaw12_DequePushes.f
  repeat' first
      | (with_reducible exact ih0 _ _ _ _ _)
      | (with_reducible exact deque_Items.mono _ _ _ _)
      | (with_reducible exact deque_Push.mono _ _ _ _ _)
      | (with_reducible exact trefoillaw12_awake.mono _)
      | (with_reducible exact trefoilref02_Ints.mono _ _ _)
      | (with_reducible exact LeO.refl _)
      | (with_reducible exact LeO.none _)
      | (with_reducible refine LeO.ite ?_ ?_)
      | (with_reducible refine LeO.bind ?_ (fun _ => ?_))
      | exact ih0 _ _ _ _ _
      | exact deque_Items.mono _ _ _ _
      | exact deque_Push.mono _ _ _ _ _
      | exact trefoillaw12_awake.mono _
      | exact trefoilref02_Ints.mono _ _ _
      | exact LeO.none _
      | refine LeO.ite ?_ ?_
      | refine LeO.bind ?_ (fun _ => ?_)
def trefoillaw12_DequePushes.T6 : Bool × List (List Nat × List Nat) := (true, [([], []), ([0], [0]), ([1, 1], [1]), ([], []), ([3, 2], [3]), ([4, 4], [4]), ([2, 5, 0, 1, 2], [2]), ([5, 6, 0, 1, 2, 3, 4, 5, 6], [5])])
def trefoillaw12_DequePushes.B6 : List Nat := [0, 1, 3, 0, 15, 31, 63, 127]
theorem trefoillaw12_DequePushes.tab6 : rtab .any (opsOf Tryd.f7 6) = trefoillaw12_DequePushes.T6 := by kernel_rfl
theorem trefoillaw12_DequePushes.bits6 : waitsOk trefoillaw12_DequePushes.T6.2 trefoillaw12_DequePushes.B6 = true := by kernel_rfl
set_option maxHeartbeats 8000000 in
set_option maxRecDepth 100000 in
theorem trefoillaw12_DequePushes.calls (k : Nat) (A0_0 : Option Addr) (c0_0 : Nat) (l0_0 : List Int) (a0_1 : Int) (a0_2 : Int) (a1 : Int) (r : Bool) (w : World) (hr0_0 : Kd.C (Kd.int .i64) w A0_0 l0_0.length l0_0) (hc0_0 : l0_0.length ≤ c0_0) (h : trefoillaw12_DequePushes.f k l0_0 a0_1 a0_2 a1 = some r) (hTab : TabOK w := by first | exact hTab | exact TabOK.below hTab HB.out | exact TabOK.drewN hTab _ | exact TabOK.below hTab (by repeat (first | (with_reducible first | exact HB.out | apply below_alloc | apply pw_below_drewN | apply below_drew1 | refine below_set ?_ (Aside0.out (by assumption))) | exact HB.out)) | (repeat (first | exact hTab | apply TabOK.drewN | apply TabOK.drew | apply TabOK.alloc); done)) :
    Calls Tryd.prog 7 #[.agg #[.slice A0_0 l0_0.length c0_0, .int .i64 a0_1, .int .i64 a0_2], .int .i64 a1] w fun e w' => e = .returned (.bool r) ∧ Below w.heap.size w w' := by
  have hu24 := Tryd.underlying24
  have HR0_0 := Aside0.mk hr0_0
  have HC0_0 := Aside0.mk hc0_0
  clear hr0_0 hc0_0
  have HB := Aside0.mk (Below.refl w.heap.size w)
  have H : ((trefoillaw12_awake.f k).bind fun t260 => (if t260 = true then (trefoillaw12_DequePushes.j0 k a1 (decide ((l0_0.length : Int) > 130)) l0_0 a0_1 a0_2) else (trefoillaw12_DequePushes.j0 k a1 true l0_0 a0_1 a0_2))) = some r := h
  clear h
  have HC3 := Aside0.mk H
  clear H
  go_enter Tryd.func7, Tryd.ntmps7
  go_upto_region 1 with (first | ((with_reducible refine gate_dst (N := 2) rfl ?_); (try (refine gate_guard (by rfl) ?_; dsimp only)); refine box_event ?hg (N := 2) ?hd (cs := #[.slice A0_0 l0_0.length c0_0, .int .i64 a0_1, .int .i64 a0_2]) (t := 24) ?hr ?_; (case hd => rfl); (case hg => rfl); (case hr => first | (go_simp; done) | (go_simp; rfl)); intro gb259 hg w4 hbox hb; have n0_ := Aside0.mk (below_step (by repeat (first | (with_reducible first | exact HB.out | apply below_alloc | apply pw_below_drewN | apply below_drew1) | exact HB.out)) hb); have n1_ := Aside0.mk (hbox); have n2_ := Aside0.mk ((by rw [hg]; exact (below_size (by repeat (first | (with_reducible first | exact HB.out | apply below_alloc | apply pw_below_drewN | apply below_drew1) | exact HB.out))) : w.heap.size ≤ gb259)); have n3_ := Aside0.mk ((by rw [hg]; exact (below_size (by repeat (first | (with_reducible first | exact HB.out | apply below_alloc | apply pw_below_drewN | apply below_drew1) | exact HB.out))) : w.heap.size ≤ gb259)); clear HB; have HB := n0_; have BK259 := n1_; have GW259 := n2_; have GE259 := n3_; clear n0_ n1_ n2_ n3_; clear hb hbox hg))
  (try simp only [Act.put, List.setIfInBounds_toArray, List.set_cons_zero, List.set_cons_succ])
  go_cut [16] (fun v16 wc => ∃ (kq : Nat) (x16_2 : Bool), v16 = .bool x16_2 ∧ Aside0 (trefoillaw12_DequePushes.j0 kq a1 x16_2 l0_0 a0_1 a0_2 = some r) ∧ Aside0 (kq ≤ k) ∧ Aside0 (wc.heap[gb259]? = some (.cells #[(.slice A0_0 l0_0.length c0_0), .int .i64 a0_1, .int .i64 a0_2] 24 (0, 0))) ∧ Aside0 (Below w.heap.size w wc))
  case first =>
    have H := HC3.out
    clear HC3
    replace H := Option.bind_eq_some_iff.mp H
    obtain ⟨t260, A50, H⟩ := H
    replace H : (if t260 = true then (trefoillaw12_DequePushes.j0 k a1 (decide ((l0_0.length : Int) > 130)) l0_0 a0_1 a0_2) else (trefoillaw12_DequePushes.j0 k a1 true l0_0 a0_1 a0_2)) = some r := H
    have A5 := Aside0.mk A50
    clear A50
    by_cases c6 : t260 = true
    · subst c6
      have H1 : (trefoillaw12_DequePushes.j0 k a1 (decide ((l0_0.length : Int) > 130)) l0_0 a0_1 a0_2) = some r := by rw [if_pos rfl] at H; exact H
      clear H
      have H := H1
      clear H1
      have H' := Aside0.mk H
      clear H
      go_wp2_with (first | ((with_reducible refine gate_callee (f := 8) rfl ?_); refine goesL_ (some 9) rfl rfl Tryd.func8 (by kernel_rfl) rfl #[] rfl (by (try simp only [List.map_toArray, List.map_cons, List.map_nil]); first | done | rfl | (simp only [List.length_drop, List.length_take]; rfl)) ?_; (with_reducible refine (trefoillaw12_awake.calls k  true _ A5.out).mono ?_); rintro e w7 ⟨rfl, hb⟩; refine ⟨_, rfl, ?_⟩; have n0_ := Aside0.mk (blk_below (g := gb259) (o := .cells #[.slice A0_0 l0_0.length c0_0, .int .i64 a0_1, .int .i64 a0_2] 24 (0, 0)) (by (with_reducible repeat (first | refine blk_drewN ?_ _ | refine blk_drew ?_ | refine blk_alloc ?_ _)); exact BK259.out) hb); have n1_ := Aside0.mk (below_step (by repeat (first | (with_reducible first | exact HB.out | apply below_alloc | apply pw_below_drewN | apply below_drew1 | refine below_set ?_ GE259.out) | exact HB.out)) hb); clear BK259; clear HB; have BK259 := n0_; have HB := n1_; clear n0_ n1_; (try clear hb); (try clear hb2); (try clear hk); (try clear hi); have hcz8_0 : w7.cell? ⟨gb259, 0, none⟩ = some (.slice A0_0 l0_0.length c0_0) := (blk_cell BK259.out 0).trans rfl; have hcz8_1 : w7.cell? ⟨gb259, 1, none⟩ = some (.int .i64 a0_1) := (blk_cell BK259.out 1).trans rfl; have hcz8_2 : w7.cell? ⟨gb259, 2, none⟩ = some (.int .i64 a0_2) := (blk_cell BK259.out 2).trans rfl; have hfz8_0 := blk_frozen BK259.out 0; have hfz8_1 := blk_frozen BK259.out 1; have hfz8_2 := blk_frozen BK259.out 2))
      go_meet
      case rel => exact ⟨_, (decide ((l0_0.length : Int) > 130)), (by first | rfl | (simp; done) | (simp [*]; done)), H', ⟨by first | omega | exact Nat.le_refl _⟩, ⟨by (with_reducible repeat (first | refine blk_drewN ?_ _ | refine blk_drew ?_ | refine blk_alloc ?_ _)); exact BK259.out⟩, ⟨by repeat (first | (with_reducible first | exact HB.out | apply below_alloc | apply pw_below_drewN | apply below_drew1 | refine below_set ?_ GE259.out) | exact HB.out)⟩⟩
    · replace c6 := Bool.eq_false_iff.mpr c6
      subst c6
      have H1 : (trefoillaw12_DequePushes.j0 k a1 true l0_0 a0_1 a0_2) = some r := by rw [if_neg (show ¬ (false = true) by decide)] at H; exact H
      clear H
      have H := H1
      clear H1
      have H' := Aside0.mk H
      clear H
      go_wp2_with (first | ((with_reducible refine gate_callee (f := 8) rfl ?_); refine goesL_ (some 9) rfl rfl Tryd.func8 (by kernel_rfl) rfl #[] rfl (by (try simp only [List.map_toArray, List.map_cons, List.map_nil]); first | done | rfl | (simp only [List.length_drop, List.length_take]; rfl)) ?_; (with_reducible refine (trefoillaw12_awake.calls k  false _ A5.out).mono ?_); rintro e w9 ⟨rfl, hb⟩; refine ⟨_, rfl, ?_⟩; have n0_ := Aside0.mk (blk_below (g := gb259) (o := .cells #[.slice A0_0 l0_0.length c0_0, .int .i64 a0_1, .int .i64 a0_2] 24 (0, 0)) (by (with_reducible repeat (first | refine blk_drewN ?_ _ | refine blk_drew ?_ | refine blk_alloc ?_ _)); exact BK259.out) hb); have n1_ := Aside0.mk (below_step (by repeat (first | (with_reducible first | exact HB.out | apply below_alloc | apply pw_below_drewN | apply below_drew1 | refine below_set ?_ GE259.out) | exact HB.out)) hb); clear BK259; clear HB; have BK259 := n0_; have HB := n1_; clear n0_ n1_; (try clear hb); (try clear hb2); (try clear hk); (try clear hi)))
      go_meet
      case rel => exact ⟨_, (true), (by first | rfl | (simp; done) | (simp [*]; done)), H', ⟨by first | omega | exact Nat.le_refl _⟩, ⟨by (with_reducible repeat (first | refine blk_drewN ?_ _ | refine blk_drew ?_ | refine blk_alloc ?_ _)); exact BK259.out⟩, ⟨by repeat (first | (with_reducible first | exact HB.out | apply below_alloc | apply pw_below_drewN | apply below_drew1 | refine below_set ?_ GE259.out) | exact HB.out)⟩⟩
  case rest =>
    clear HC3
    try clear p2
    try clear c6
    try clear c7
    try clear c8
    try clear hcz8_0
    try clear hcz8_1
    try clear hcz8_2
    try clear hfz8_0
    try clear hfz8_1
    try clear hfz8_2
    obtain ⟨kq, x16_2, rfl, HA, HJ2, BK259, HB⟩ := hcut
    cases kq with
    | zero => exact absurd HA.out (by simp [trefoillaw12_DequePushes.j0])
    | succ kj2 =>
      have H := HA.out
      clear HA
      simp only [trefoillaw12_DequePushes.j0] at H
      by_cases c10 : x16_2 = true
      · subst c10
        have H1 : ((trefoillaw12_awake.f kj2).bind fun t261 => (some t261)) = some r := by rw [if_pos rfl] at H; exact H
        clear H
        have H := H1
        clear H1
        replace H := Option.bind_eq_some_iff.mp H
        obtain ⟨t261, A110, H⟩ := H
        replace H : (some t261) = some r := H
        have A11 := Aside0.mk A110
        clear A110
        obtain rfl := Option.some.inj H
        go_wp2_with (first | ((with_reducible refine gate_callee (f := 8) rfl ?_); refine goesL_ (some 17) rfl rfl Tryd.func8 (by kernel_rfl) rfl #[] rfl (by (try simp only [List.map_toArray, List.map_cons, List.map_nil]); first | done | rfl | (simp only [List.length_drop, List.length_take]; rfl)) ?_; (with_reducible refine (trefoillaw12_awake.calls kj2  t261 _ A11.out).mono ?_); rintro e w12 ⟨rfl, hb⟩; refine ⟨_, rfl, ?_⟩; have n0_ := Aside0.mk (blk_below (g := gb259) (o := .cells #[.slice A0_0 l0_0.length c0_0, .int .i64 a0_1, .int .i64 a0_2] 24 (0, 0)) (by (with_reducible repeat (first | refine blk_drewN ?_ _ | refine blk_drew ?_ | refine blk_alloc ?_ _)); exact BK259.out) hb); have n1_ := Aside0.mk (below_step (by repeat (first | (with_reducible first | exact HB.out | apply below_alloc | apply pw_below_drewN | apply below_drew1 | refine below_set ?_ GE259.out) | exact HB.out)) hb); clear BK259; clear HB; have BK259 := n0_; have HB := n1_; clear n0_ n1_; (try clear hb); (try clear hb2); (try clear hk); (try clear hi)))
        go_ret
        exact ⟨by first | rfl | (simp [errW_none, errW_some] <;> rfl) | (simp [*, errW_none, errW_some] <;> rfl), by repeat (first | (with_reducible first | exact HB.out | apply below_alloc | apply pw_below_drewN | apply below_drew1 | refine below_set ?_ GE259.out) | exact HB.out)⟩
      · replace c10 := Bool.eq_false_iff.mpr c10
        subst c10
        have H1 : ((trefoillaw12_Own.f l0_0 a0_1 a0_2).bind fun bt262 => ((deque_Push.f kj2 bt262.1 bt262.2.1 bt262.2.2 a1).bind fun bt267 => (if bt267.2.2.2 = 0 then ((trefoillaw12_Own.f l0_0 a0_1 a0_2).bind fun bt280 => ((deque_Items.f kj2 bt280.1 bt280.2.1 bt280.2.2).bind fun t285 => ((trefoillaw12_Own.f bt267.1 bt267.2.1 bt267.2.2.1).bind fun bt288 => ((deque_Items.f kj2 bt288.1 bt288.2.1 bt288.2.2).bind fun t293 => (if (t293.length : Int) = (wrap64 ((t285.length : Int) + 1)) then (if 0 ≤ (t285.length : Int) then (if (t285.length : Int) ≤ (t293.length : Int) then ((trefoilref02_Ints.f kj2 (t293.take ((t285.length : Int) : Int).toNat) t285).bind fun t300 => (if t300 = true then (if (t285.length : Int) < (t293.length : Int) then (if (rd t293 (t285.length : Int)) = a1 then (if bt267.2.1 = a0_1 then (if bt267.2.2.1 = (wrap64 (a0_2 + 1)) then ((trefoillaw12_Own.f bt267.1 bt267.2.1 bt267.2.2.1).bind fun bt302 => ((deque_Check.f bt302.1 bt302.2.1 bt302.2.2).bind fun t307 => (some (t307 == 0)))) else (none)) else (none)) else (none)) else (none)) else (none))) else (none)) else (none)) else (none)))))) else (if (bt267.1.length : Int) = 0 then ((trefoillaw12_Own.f l0_0 a0_1 a0_2).bind fun bt274 => ((deque_Check.f bt274.1 bt274.2.1 bt274.2.2).bind fun t279 => (some ((bt267.2.2.2 == 120) == (t279 != 0))))) else (none))))) = some r := by rw [if_neg (show ¬ (false = true) by decide)] at H; exact H
        clear H
        have H := H1
        clear H1
        replace H := Option.bind_eq_some_iff.mp H
        obtain ⟨⟨t262, t265, t266⟩, A130, H⟩ := H
        replace H : ((deque_Push.f kj2 t262 t265 t266 a1).bind fun bt267 => (if bt267.2.2.2 = 0 then ((trefoillaw12_Own.f l0_0 a0_1 a0_2).bind fun bt280 => ((deque_Items.f kj2 bt280.1 bt280.2.1 bt280.2.2).bind fun t285 => ((trefoillaw12_Own.f bt267.1 bt267.2.1 bt267.2.2.1).bind fun bt288 => ((deque_Items.f kj2 bt288.1 bt288.2.1 bt288.2.2).bind fun t293 => (if (t293.length : Int) = (wrap64 ((t285.length : Int) + 1)) then (if 0 ≤ (t285.length : Int) then (if (t285.length : Int) ≤ (t293.length : Int) then ((trefoilref02_Ints.f kj2 (t293.take ((t285.length : Int) : Int).toNat) t285).bind fun t300 => (if t300 = true then (if (t285.length : Int) < (t293.length : Int) then (if (rd t293 (t285.length : Int)) = a1 then (if bt267.2.1 = a0_1 then (if bt267.2.2.1 = (wrap64 (a0_2 + 1)) then ((trefoillaw12_Own.f bt267.1 bt267.2.1 bt267.2.2.1).bind fun bt302 => ((deque_Check.f bt302.1 bt302.2.1 bt302.2.2).bind fun t307 => (some (t307 == 0)))) else (none)) else (none)) else (none)) else (none)) else (none))) else (none)) else (none)) else (none)))))) else (if (bt267.1.length : Int) = 0 then ((trefoillaw12_Own.f l0_0 a0_1 a0_2).bind fun bt274 => ((deque_Check.f bt274.1 bt274.2.1 bt274.2.2).bind fun t279 => (some ((bt267.2.2.2 == 120) == (t279 != 0))))) else (none)))) = some r := H
        have A13 := Aside0.mk A130
        clear A130
        replace H := Option.bind_eq_some_iff.mp H
        obtain ⟨⟨t267, t270, t271, t272⟩, A140, H⟩ := H
        replace H : (if t272 = 0 then ((trefoillaw12_Own.f l0_0 a0_1 a0_2).bind fun bt280 => ((deque_Items.f kj2 bt280.1 bt280.2.1 bt280.2.2).bind fun t285 => ((trefoillaw12_Own.f t267 t270 t271).bind fun bt288 => ((deque_Items.f kj2 bt288.1 bt288.2.1 bt288.2.2).bind fun t293 => (if (t293.length : Int) = (wrap64 ((t285.length : Int) + 1)) then (if 0 ≤ (t285.length : Int) then (if (t285.length : Int) ≤ (t293.length : Int) then ((trefoilref02_Ints.f kj2 (t293.take ((t285.length : Int) : Int).toNat) t285).bind fun t300 => (if t300 = true then (if (t285.length : Int) < (t293.length : Int) then (if (rd t293 (t285.length : Int)) = a1 then (if t270 = a0_1 then (if t271 = (wrap64 (a0_2 + 1)) then ((trefoillaw12_Own.f t267 t270 t271).bind fun bt302 => ((deque_Check.f bt302.1 bt302.2.1 bt302.2.2).bind fun t307 => (some (t307 == 0)))) else (none)) else (none)) else (none)) else (none)) else (none))) else (none)) else (none)) else (none)))))) else (if (t267.length : Int) = 0 then ((trefoillaw12_Own.f l0_0 a0_1 a0_2).bind fun bt274 => ((deque_Check.f bt274.1 bt274.2.1 bt274.2.2).bind fun t279 => (some ((t272 == 120) == (t279 != 0))))) else (none))) = some r := H
        have A14 := Aside0.mk A140
        clear A140
        by_cases c15 : t272 = 0
        · rw [if_pos c15] at H
          have c15b0 : (t272 == 0) = true := beq_iff_eq.mpr c15
          have c15b1 : (t272 != 0) = false := bne_eq_false_iff_eq.mpr c15
          clear c15
          replace H := Option.bind_eq_some_iff.mp H
          obtain ⟨⟨t280, t283, t284⟩, A160, H⟩ := H
          replace H : ((deque_Items.f kj2 t280 t283 t284).bind fun t285 => ((trefoillaw12_Own.f t267 t270 t271).bind fun bt288 => ((deque_Items.f kj2 bt288.1 bt288.2.1 bt288.2.2).bind fun t293 => (if (t293.length : Int) = (wrap64 ((t285.length : Int) + 1)) then (if 0 ≤ (t285.length : Int) then (if (t285.length : Int) ≤ (t293.length : Int) then ((trefoilref02_Ints.f kj2 (t293.take ((t285.length : Int) : Int).toNat) t285).bind fun t300 => (if t300 = true then (if (t285.length : Int) < (t293.length : Int) then (if (rd t293 (t285.length : Int)) = a1 then (if t270 = a0_1 then (if t271 = (wrap64 (a0_2 + 1)) then ((trefoillaw12_Own.f t267 t270 t271).bind fun bt302 => ((deque_Check.f bt302.1 bt302.2.1 bt302.2.2).bind fun t307 => (some (t307 == 0)))) else (none)) else (none)) else (none)) else (none)) else (none))) else (none)) else (none)) else (none))))) = some r := H
          have A16 := Aside0.mk A160
          clear A160
          replace H := Option.bind_eq_some_iff.mp H
          obtain ⟨t285, A170, H⟩ := H
          replace H : ((trefoillaw12_Own.f t267 t270 t271).bind fun bt288 => ((deque_Items.f kj2 bt288.1 bt288.2.1 bt288.2.2).bind fun t293 => (if (t293.length : Int) = (wrap64 ((t285.length : Int) + 1)) then (if 0 ≤ (t285.length : Int) then (if (t285.length : Int) ≤ (t293.length : Int) then ((trefoilref02_Ints.f kj2 (t293.take ((t285.length : Int) : Int).toNat) t285).bind fun t300 => (if t300 = true then (if (t285.length : Int) < (t293.length : Int) then (if (rd t293 (t285.length : Int)) = a1 then (if t270 = a0_1 then (if t271 = (wrap64 (a0_2 + 1)) then ((trefoillaw12_Own.f t267 t270 t271).bind fun bt302 => ((deque_Check.f bt302.1 bt302.2.1 bt302.2.2).bind fun t307 => (some (t307 == 0)))) else (none)) else (none)) else (none)) else (none)) else (none))) else (none)) else (none)) else (none)))) = some r := H
          have A17 := Aside0.mk A170
          clear A170
          replace H := Option.bind_eq_some_iff.mp H
          obtain ⟨⟨t288, t291, t292⟩, A180, H⟩ := H
          replace H : ((deque_Items.f kj2 t288 t291 t292).bind fun t293 => (if (t293.length : Int) = (wrap64 ((t285.length : Int) + 1)) then (if 0 ≤ (t285.length : Int) then (if (t285.length : Int) ≤ (t293.length : Int) then ((trefoilref02_Ints.f kj2 (t293.take ((t285.length : Int) : Int).toNat) t285).bind fun t300 => (if t300 = true then (if (t285.length : Int) < (t293.length : Int) then (if (rd t293 (t285.length : Int)) = a1 then (if t270 = a0_1 then (if t271 = (wrap64 (a0_2 + 1)) then ((trefoillaw12_Own.f t267 t270 t271).bind fun bt302 => ((deque_Check.f bt302.1 bt302.2.1 bt302.2.2).bind fun t307 => (some (t307 == 0)))) else (none)) else (none)) else (none)) else (none)) else (none))) else (none)) else (none)) else (none))) = some r := H
          have A18 := Aside0.mk A180
          clear A180
          replace H := Option.bind_eq_some_iff.mp H
          obtain ⟨t293, A190, H⟩ := H
          replace H : (if (t293.length : Int) = (wrap64 ((t285.length : Int) + 1)) then (if 0 ≤ (t285.length : Int) then (if (t285.length : Int) ≤ (t293.length : Int) then ((trefoilref02_Ints.f kj2 (t293.take ((t285.length : Int) : Int).toNat) t285).bind fun t300 => (if t300 = true then (if (t285.length : Int) < (t293.length : Int) then (if (rd t293 (t285.length : Int)) = a1 then (if t270 = a0_1 then (if t271 = (wrap64 (a0_2 + 1)) then ((trefoillaw12_Own.f t267 t270 t271).bind fun bt302 => ((deque_Check.f bt302.1 bt302.2.1 bt302.2.2).bind fun t307 => (some (t307 == 0)))) else (none)) else (none)) else (none)) else (none)) else (none))) else (none)) else (none)) else (none)) = some r := H
          have A19 := Aside0.mk A190
          clear A190
          by_cases c20 : (t293.length : Int) = (wrap64 ((t285.length : Int) + 1))
          · rw [if_pos c20] at H
            have c20b0 : ((t293.length : Int) == (wrap64 ((t285.length : Int) + 1))) = true := beq_iff_eq.mpr c20
            have c20b1 : ((t293.length : Int) != (wrap64 ((t285.length : Int) + 1))) = false := bne_eq_false_iff_eq.mpr c20
            clear c20
            by_cases c21 : 0 ≤ (t285.length : Int)
            · rw [if_pos c21] at H
              have c21b0 := eq_true c21
              have c21b1 : decide (0 ≤ (t285.length : Int)) = true := decide_eq_true c21
              clear c21
              by_cases c22 : (t285.length : Int) ≤ (t293.length : Int)
              · rw [if_pos c22] at H
                have c22b0 := eq_true c22
                have c22b1 : decide ((t285.length : Int) ≤ (t293.length : Int)) = true := decide_eq_true c22
                clear c22
                obtain ⟨y296, hy296⟩ : ∃ y_ : List Int, y_ = (t293.take ((t285.length : Int) : Int).toNat) := ⟨_, rfl⟩
                replace H : ((trefoilref02_Ints.f kj2 y296 t285).bind fun t300 => (if t300 = true then (if (t285.length : Int) < (t293.length : Int) then (if (rd t293 (t285.length : Int)) = a1 then (if t270 = a0_1 then (if t271 = (wrap64 (a0_2 + 1)) then ((trefoillaw12_Own.f t267 t270 t271).bind fun bt302 => ((deque_Check.f bt302.1 bt302.2.1 bt302.2.2).bind fun t307 => (some (t307 == 0)))) else (none)) else (none)) else (none)) else (none)) else (none))) = some r := by first | (rw [hy296]; with_reducible exact H) | (have H2_ := (Option.bind_some _ _).symm.trans H; rw [hy296]; with_reducible exact H2_) | (have H2_ := (Option.bind_some _ _).symm.trans H; with_reducible exact H2_) | with_reducible exact H | (rw [hy296]; exact H) | exact H
                have Ny296 := Aside0.mk hy296
                clear hy296
                replace H := Option.bind_eq_some_iff.mp H
                obtain ⟨t300, A230, H⟩ := H
                replace H : (if t300 = true then (if (t285.length : Int) < (t293.length : Int) then (if (rd t293 (t285.length : Int)) = a1 then (if t270 = a0_1 then (if t271 = (wrap64 (a0_2 + 1)) then ((trefoillaw12_Own.f t267 t270 t271).bind fun bt302 => ((deque_Check.f bt302.1 bt302.2.1 bt302.2.2).bind fun t307 => (some (t307 == 0)))) else (none)) else (none)) else (none)) else (none)) else (none)) = some r := H
                have A23 := Aside0.mk A230
                clear A230
                by_cases c24 : t300 = true
                · subst c24
                  have H1 : (if (t285.length : Int) < (t293.length : Int) then (if (rd t293 (t285.length : Int)) = a1 then (if t270 = a0_1 then (if t271 = (wrap64 (a0_2 + 1)) then ((trefoillaw12_Own.f t267 t270 t271).bind fun bt302 => ((deque_Check.f bt302.1 bt302.2.1 bt302.2.2).bind fun t307 => (some (t307 == 0)))) else (none)) else (none)) else (none)) else (none)) = some r := by rw [if_pos rfl] at H; exact H
                  clear H
                  have H := H1
                  clear H1
                  by_cases c25 : (t285.length : Int) < (t293.length : Int)
                  · rw [if_pos c25] at H
                    have c25b0 : decide ((t285.length : Int) < (t293.length : Int)) = true := decide_eq_true c25
                    have c25b1 : decide (t285.length < t293.length) = true := decide_eq_true (Int.ofNat_lt.mp c25)
                    clear c25
                    by_cases c26 : (rd t293 (t285.length : Int)) = a1
                    · rw [if_pos c26] at H
                      have c26b0 : ((rd t293 (t285.length : Int)) == a1) = true := beq_iff_eq.mpr c26
                      have c26b1 : ((rd t293 (t285.length : Int)) != a1) = false := bne_eq_false_iff_eq.mpr c26
                      clear c26
                      by_cases c27 : t270 = a0_1
                      · rw [if_pos c27] at H
                        have c27b0 : (t270 == a0_1) = true := beq_iff_eq.mpr c27
                        have c27b1 : (t270 != a0_1) = false := bne_eq_false_iff_eq.mpr c27
                        clear c27
                        by_cases c28 : t271 = (wrap64 (a0_2 + 1))
                        · rw [if_pos c28] at H
                          have c28b0 : (t271 == (wrap64 (a0_2 + 1))) = true := beq_iff_eq.mpr c28
                          have c28b1 : (t271 != (wrap64 (a0_2 + 1))) = false := bne_eq_false_iff_eq.mpr c28
                          clear c28
                          replace H := Option.bind_eq_some_iff.mp H
                          obtain ⟨⟨t302, t305, t306⟩, A290, H⟩ := H
                          replace H : ((deque_Check.f t302 t305 t306).bind fun t307 => (some (t307 == 0))) = some r := H
                          have A29 := Aside0.mk A290
                          clear A290
                          replace H := Option.bind_eq_some_iff.mp H
                          obtain ⟨t307, A300, H⟩ := H
                          replace H : (some (t307 == 0)) = some r := H
                          have A30 := Aside0.mk A300
                          clear A300
                          obtain rfl := Option.some.inj H
                          have hcz31_0 : wc.cell? ⟨gb259, 0, none⟩ = some (.slice A0_0 l0_0.length c0_0) := (blk_cell BK259.out 0).trans rfl
                          have hcz31_1 : wc.cell? ⟨gb259, 1, none⟩ = some (.int .i64 a0_1) := (blk_cell BK259.out 1).trans rfl
                          have hcz31_2 : wc.cell? ⟨gb259, 2, none⟩ = some (.int .i64 a0_2) := (blk_cell BK259.out 2).trans rfl
                          have hfz31_0 := blk_frozen BK259.out 0
                          have hfz31_1 := blk_frozen BK259.out 1
                          have hfz31_2 := blk_frozen BK259.out 2
                          try go_wp2_with (first | ((with_reducible refine gate_callee (f := 10) rfl ?_); refine goesL_ (some 20) rfl rfl Tryd.func10 (by kernel_rfl) rfl #[.agg #[.slice A0_0 l0_0.length c0_0, .int .i64 a0_1, .int .i64 a0_2]] rfl (by (try simp only [List.map_toArray, List.map_cons, List.map_nil]); first | done | rfl | (simp only [List.length_drop, List.length_take]; rfl)) ?_; (with_reducible refine (trefoillaw12_Own.calls _ _ l0_0 a0_1 a0_2 t262 t265 t266 _ ?side1 ?side2 A13.out).mono ?_); (case side1 => repeat (first | exact (Kd.C_below HR0_0.out HB.out) | (with_reducible refine Kd.C_alloc ?_ _) | (with_reducible refine Kd.C_drewN ?_ _) | (with_reducible refine Kd.C_drew ?_))); (case side2 => exact HC0_0.out); rintro e w32 ⟨v263, rfl, ho0, hb⟩; refine ⟨_, rfl, ?_⟩; have n0_ := Aside0.mk (Kd.R_lower ho0 (below_size (by repeat (first | (with_reducible first | exact HB.out | apply below_alloc | apply pw_below_drewN | apply below_drew1 | refine below_set ?_ GE259.out) | exact HB.out)))); have n1_ := Aside0.mk (blk_below (g := gb259) (o := .cells #[.slice A0_0 l0_0.length c0_0, .int .i64 a0_1, .int .i64 a0_2] 24 (0, 0)) (by (with_reducible repeat (first | refine blk_drewN ?_ _ | refine blk_drew ?_ | refine blk_alloc ?_ _)); exact BK259.out) hb); have n2_ := Aside0.mk (below_step (by repeat (first | (with_reducible first | exact HB.out | apply below_alloc | apply pw_below_drewN | apply below_drew1 | refine below_set ?_ GE259.out) | exact HB.out)) hb); clear BK259; clear HB; have HO264 := n0_; have BK259 := n1_; have HB := n2_; clear n0_ n1_ n2_; (try clear hb); (try clear hb2); (try clear hk); (try clear hi); (try clear ho0); obtain ⟨Ao33, co33, eo33⟩ := Kd.R_slice HO264.out; subst eo33) | ((with_reducible refine gate_callee (f := 15) rfl ?_); refine goesL_ (some 22) rfl rfl Tryd.func15 (by kernel_rfl) rfl #[.agg #[.slice Ao33 t262.length co33, .int .i64 t265, .int .i64 t266], .int .i64 a1] rfl (by (try simp only [List.map_toArray, List.map_cons, List.map_nil]); first | done | rfl | (simp only [List.length_drop, List.length_take]; rfl)) ?_; (with_reducible refine (deque_Push.calls kj2 _ _ t262 t265 t266 a1 t267 t270 t271 t272 _ ?side1 ?side2 A14.out).mono ?_); (case side1 => repeat (first | exact (Kd.R_reads' HO264.out).2.2 | (with_reducible refine Kd.C_alloc ?_ _) | (with_reducible refine Kd.C_drewN ?_ _) | (with_reducible refine Kd.C_drew ?_))); (case side2 => exact (Kd.R_reads' HO264.out).2.1); rintro e w34 ⟨v268, rfl, ho0, hb⟩; refine ⟨_, rfl, ?_⟩; have n0_ := Aside0.mk (Kd.R_elder' (by (with_reducible repeat (first | apply Kd.R_alloc | apply Kd.R_drewN | apply Kd.R_drew)); exact HO264.out) (Kd.R_base ho0) hb); have n1_ := Aside0.mk (Kd.R_lower (Kd.R_new' ho0 (Kd.R_lt (by (with_reducible repeat (first | apply Kd.R_alloc | apply Kd.R_drewN | apply Kd.R_drew)); exact HO264.out))) (below_size (by repeat (first | (with_reducible first | exact HB.out | apply below_alloc | apply pw_below_drewN | apply below_drew1 | refine below_set ?_ GE259.out) | exact HB.out)))); have n2_ := Aside0.mk (blk_below (g := gb259) (o := .cells #[.slice A0_0 l0_0.length c0_0, .int .i64 a0_1, .int .i64 a0_2] 24 (0, 0)) (by (with_reducible repeat (first | refine blk_drewN ?_ _ | refine blk_drew ?_ | refine blk_alloc ?_ _)); exact BK259.out) hb); have n3_ := Aside0.mk (below_step (by repeat (first | (with_reducible first | exact HB.out | apply below_alloc | apply pw_below_drewN | apply below_drew1 | refine below_set ?_ GE259.out) | exact HB.out)) hb); clear HO264; clear BK259; clear HB; have HO264 := n0_; have HO269 := n1_; have BK259 := n2_; have HB := n3_; clear n0_ n1_ n2_ n3_; (try clear hb); (try clear hb2); (try clear hk); (try clear hi); (try clear ho0)) | ((with_reducible refine gate_dst (N := 5) rfl ?_); (try (refine gate_guard (by rfl) ?_; dsimp only)); refine box_event ?hg (N := 5) ?hd (cs := #[.slice none 0 0, .int .i64 0, .int .i64 0]) (t := 24) ?hr ?_; (case hd => rfl); (case hg => rfl); (case hr => first | (go_simp; done) | (go_simp; rfl)); intro gb273 hg w35 hbox hb; have n0_ := Aside0.mk (Kd.R_below (by (with_reducible repeat (first | apply Kd.R_alloc | apply Kd.R_drewN | apply Kd.R_drew)); exact HO264.out) hb); have n1_ := Aside0.mk (Kd.R_below (by (with_reducible repeat (first | apply Kd.R_alloc | apply Kd.R_drewN | apply Kd.R_drew)); exact HO269.out) hb); have n2_ := Aside0.mk (blk_below (g := gb259) (o := .cells #[.slice A0_0 l0_0.length c0_0, .int .i64 a0_1, .int .i64 a0_2] 24 (0, 0)) (by (with_reducible repeat (first | refine blk_drewN ?_ _ | refine blk_drew ?_ | refine blk_alloc ?_ _)); exact BK259.out) hb); have n3_ := Aside0.mk (below_step (by repeat (first | (with_reducible first | exact HB.out | apply below_alloc | apply pw_below_drewN | apply below_drew1 | refine below_set ?_ GE259.out) | exact HB.out)) hb); have n4_ := Aside0.mk (hbox); have n5_ := Aside0.mk ((by rw [hg]; exact (below_size (by repeat (first | (with_reducible first | exact HB.out | apply below_alloc | apply pw_below_drewN | apply below_drew1 | refine below_set ?_ GE259.out) | exact HB.out))) : w.heap.size ≤ gb273)); have n6_ := Aside0.mk ((by rw [hg]; exact (below_size (by repeat (first | (with_reducible first | exact HB.out | apply below_alloc | apply pw_below_drewN | apply below_drew1 | refine below_set ?_ GE259.out) | exact HB.out))) : w.heap.size ≤ gb273)); have n7_ := Aside0.mk ((by rw [hg]; exact Nat.ne_of_lt (blk_lt (g := gb259) (o := .cells #[.slice A0_0 l0_0.length c0_0, .int .i64 a0_1, .int .i64 a0_2] 24 (0, 0)) (by (with_reducible repeat (first | refine blk_drewN ?_ _ | refine blk_drew ?_ | refine blk_alloc ?_ _)); exact BK259.out)) : gb259 ≠ gb273)); have n8_ := Aside0.mk ((by rw [hg]; exact Nat.ne_of_gt (blk_lt (g := gb259) (o := .cells #[.slice A0_0 l0_0.length c0_0, .int .i64 a0_1, .int .i64 a0_2] 24 (0, 0)) (by (with_reducible repeat (first | refine blk_drewN ?_ _ | refine blk_drew ?_ | refine blk_alloc ?_ _)); exact BK259.out)) : gb273 ≠ gb259)); clear HO264; clear HO269; clear BK259; clear HB; have HO264 := n0_; have HO269 := n1_; have BK259 := n2_; have HB := n3_; have BK273 := n4_; have GW273 := n5_; have GE273 := n6_; have NB259_273 := n7_; have NB273_259 := n8_; clear n0_ n1_ n2_ n3_ n4_ n5_ n6_ n7_ n8_; clear hb hbox hg; obtain ⟨Ao36, co36, eo36⟩ := Kd.R_slice HO269.out; subst eo36; have hnb37 := NB273_259.out; have hnc37 := NB259_273.out; have hcz38_0 : w35.cell? ⟨gb273, 0, none⟩ = some (.slice none 0 0) := (blk_cell BK273.out 0).trans rfl; have hcz38_1 : w35.cell? ⟨gb273, 1, none⟩ = some (.int .i64 0) := (blk_cell BK273.out 1).trans rfl; have hcz38_2 : w35.cell? ⟨gb273, 2, none⟩ = some (.int .i64 0) := (blk_cell BK273.out 2).trans rfl; have hfz38_0 := blk_frozen BK273.out 0; have hfz38_1 := blk_frozen BK273.out 1; have hfz38_2 := blk_frozen BK273.out 2))
                          have n0_ : Aside0 (Kd.R (Kd.int .i64) 3 (((w35.setCell ⟨gb273, 0, none⟩ (.slice Ao36 t267.length co36)).setCell ⟨gb273, 1, none⟩ (.int .i64 t270)).setCell ⟨gb273, 2, none⟩ (.int .i64 t271)) w.heap.size (fun k_ => some k_ ≠ (.slice Ao36 t267.length co36 : Value).ownBlock) (.slice Ao33 t262.length co33) t262) := ⟨by (with_reducible repeat (first | apply Kd.R_alloc | apply Kd.R_drewN | apply Kd.R_drew)); exact Kd.R_mono (Kd.R_far (p := ⟨gb273, 2, none⟩) (Kd.R_far (p := ⟨gb273, 1, none⟩) (Kd.R_far (p := ⟨gb273, 0, none⟩) (Kd.R_types HO264.out BK273.out (by decide)) (fun _ hk => hk.2) (.slice Ao36 t267.length co36)) (fun _ hk => hk.2) (.int .i64 t270)) (fun _ hk => hk.2) (.int .i64 t271)) (fun _ hk => hk.1.2)⟩
                          have n1_ : Aside0 (Kd.R (Kd.int .i64) 3 (((w35.setCell ⟨gb273, 0, none⟩ (.slice Ao36 t267.length co36)).setCell ⟨gb273, 1, none⟩ (.int .i64 t270)).setCell ⟨gb273, 2, none⟩ (.int .i64 t271)) w.heap.size (fun k_ => some k_ ≠ (.slice Ao33 t262.length co33 : Value).ownBlock) (.slice Ao36 t267.length co36) t267) := ⟨by (with_reducible repeat (first | apply Kd.R_alloc | apply Kd.R_drewN | apply Kd.R_drew)); exact Kd.R_mono (Kd.R_far (p := ⟨gb273, 2, none⟩) (Kd.R_far (p := ⟨gb273, 1, none⟩) (Kd.R_far (p := ⟨gb273, 0, none⟩) (Kd.R_types HO269.out BK273.out (by decide)) (fun _ hk => hk.2) (.slice Ao36 t267.length co36)) (fun _ hk => hk.2) (.int .i64 t270)) (fun _ hk => hk.2) (.int .i64 t271)) (fun _ hk => hk.1.2)⟩
                          have n2_ : Aside0 ((((w35.setCell ⟨gb273, 0, none⟩ (.slice Ao36 t267.length co36)).setCell ⟨gb273, 1, none⟩ (.int .i64 t270)).setCell ⟨gb273, 2, none⟩ (.int .i64 t271)).heap[gb259]? = some (.cells #[.slice A0_0 l0_0.length c0_0, .int .i64 a0_1, .int .i64 a0_2] 24 (0, 0))) := ⟨by (with_reducible repeat (first | refine blk_drewN ?_ _ | refine blk_drew ?_ | refine blk_alloc ?_ _)); refine blk_far ?_ NB259_273.out _; (with_reducible repeat (first | refine blk_drewN ?_ _ | refine blk_drew ?_ | refine blk_alloc ?_ _)); refine blk_far ?_ NB259_273.out _; (with_reducible repeat (first | refine blk_drewN ?_ _ | refine blk_drew ?_ | refine blk_alloc ?_ _)); refine blk_far ?_ NB259_273.out _; (with_reducible repeat (first | refine blk_drewN ?_ _ | refine blk_drew ?_ | refine blk_alloc ?_ _)); exact BK259.out⟩
                          have n3_ : Aside0 ((((w35.setCell ⟨gb273, 0, none⟩ (.slice Ao36 t267.length co36)).setCell ⟨gb273, 1, none⟩ (.int .i64 t270)).setCell ⟨gb273, 2, none⟩ (.int .i64 t271)).heap[gb273]? = some (.cells #[.slice Ao36 t267.length co36, .int .i64 t270, .int .i64 t271] 24 (0, 0))) := ⟨by (with_reducible repeat (first | refine blk_drewN ?_ _ | refine blk_drew ?_ | refine blk_alloc ?_ _)); refine blk_put (cs := #[.slice Ao36 t267.length co36, .int .i64 t270, .int .i64 0]) ?_ 2 _ rfl; (with_reducible repeat (first | refine blk_drewN ?_ _ | refine blk_drew ?_ | refine blk_alloc ?_ _)); refine blk_put (cs := #[.slice Ao36 t267.length co36, .int .i64 0, .int .i64 0]) ?_ 1 _ rfl; (with_reducible repeat (first | refine blk_drewN ?_ _ | refine blk_drew ?_ | refine blk_alloc ?_ _)); refine blk_put (cs := #[.slice none 0 0, .int .i64 0, .int .i64 0]) ?_ 0 _ rfl; (with_reducible repeat (first | refine blk_drewN ?_ _ | refine blk_drew ?_ | refine blk_alloc ?_ _)); exact BK273.out⟩
                          have n4_ : Aside0 (Below w.heap.size w (((w35.setCell ⟨gb273, 0, none⟩ (.slice Ao36 t267.length co36)).setCell ⟨gb273, 1, none⟩ (.int .i64 t270)).setCell ⟨gb273, 2, none⟩ (.int .i64 t271))) := ⟨by repeat (first | (with_reducible first | exact HB.out | apply below_alloc | apply pw_below_drewN | apply below_drew1 | refine below_set ?_ GE259.out | refine below_set ?_ GE273.out) | exact HB.out)⟩
                          (try clear HO264)
                          (try clear HO269)
                          (try clear BK259)
                          (try clear BK273)
                          (try clear HB)
                          generalize (((w35.setCell ⟨gb273, 0, none⟩ (.slice Ao36 t267.length co36)).setCell ⟨gb273, 1, none⟩ (.int .i64 t270)).setCell ⟨gb273, 2, none⟩ (.int .i64 t271)) = w39 at n0_ n1_ n2_ n3_ n4_ ⊢
                          have HO264 := n0_
                          have HO269 := n1_
                          have BK259 := n2_
                          have BK273 := n3_
                          have HB := n4_
                          clear n0_ n1_ n2_ n3_ n4_
                          have n0_ := Aside0.mk (Kd.R_drew HO264.out)
                          have n1_ := Aside0.mk (Kd.R_drew HO269.out)
                          have n2_ := Aside0.mk (blk_drew BK259.out)
                          have n3_ := Aside0.mk (blk_drew BK273.out)
                          have n4_ := Aside0.mk (below_drew1 HB.out)
                          clear HO264
                          clear HO269
                          clear BK259
                          clear BK273
                          clear HB
                          have HO264 := n0_
                          have HO269 := n1_
                          have BK259 := n2_
                          have BK273 := n3_
                          have HB := n4_
                          clear n0_ n1_ n2_ n3_ n4_
                          refine start_ (n := 8) (S := fun w' => w'.cell? ⟨gb259, 0, none⟩ = some (.slice A0_0 l0_0.length c0_0) ∧ w'.cell? ⟨gb259, 1, none⟩ = some (.int .i64 a0_1) ∧ w'.cell? ⟨gb259, 2, none⟩ = some (.int .i64 a0_2) ∧ w'.cell? ⟨gb273, 0, none⟩ = some (.slice Ao36 t267.length co36) ∧ w'.cell? ⟨gb273, 1, none⟩ = some (.int .i64 t270) ∧ w'.cell? ⟨gb273, 2, none⟩ = some (.int .i64 t271)) (ds := []) #[false, false, false, false, false, false, false, false] (by kernel_rfl) rfl rfl ⟨(blk_cell BK259.out 0).trans rfl, (blk_cell BK259.out 1).trans rfl, (blk_cell BK259.out 2).trans rfl, (blk_cell BK273.out 0).trans rfl, (blk_cell BK273.out 1).trans rfl, (blk_cell BK273.out 2).trans rfl⟩ (fun hHeld => ?_); refine with_tabW trefoillaw12_DequePushes.tab6 trefoillaw12_DequePushes.bits6 (fun HT_ HW_ => ?_)
                          generalize w39.drew = w40 at HO264 HO269 BK259 BK273 HB hHeld ⊢
                          refine take_ (i := 0) (N := some 40) (v := ?_) (a' := ?_) #[true, false, false, false, false, false, false, false] rfl rfl (take_ofW HT_.out HW_.out (by kernel_rfl)) (fun _ _ _ h => h) (Or.inl ⟨by rfl, ?_⟩) hHeld ?_ ?_
                          rotate_left
                          · rintro w' ⟨s0, s1, s2, s3, s4, s5⟩
                            go_simp
                            with_reducible rfl
                          rotate_left
                          · simp only [Act.put, List.setIfInBounds_toArray, List.set_cons_zero, List.set_cons_succ, i64_w, i32_w]
                            rfl
                          refine take_ (i := 3) (N := some 43) (v := ?_) (a' := ?_) #[true, false, false, true, false, false, false, false] rfl rfl (take_ofW HT_.out HW_.out (by kernel_rfl)) (fun _ _ _ h => h) (Or.inl ⟨by rfl, ?_⟩) hHeld ?_ ?_
                          rotate_left
                          · rintro w' ⟨s0, s1, s2, s3, s4, s5⟩
                            go_simp
                            with_reducible rfl
                          rotate_left
                          · simp only [Act.put, List.setIfInBounds_toArray, List.set_cons_zero, List.set_cons_succ, i64_w, i32_w]
                            rfl
                          refine one_ (i := 1) (N := some 41) #[true, true, false, true, false, false, false, false] rfl rfl (one_of HT_.out (by kernel_rfl)) (by decide) (fun K hK => ?_)
                          refine goes_ Tryd.func10 (by kernel_rfl) rfl #[.agg #[.slice A0_0 l0_0.length c0_0, .int .i64 a0_1, .int .i64 a0_2]] (by rfl) rfl rfl (by (try simp only [List.map_toArray, List.map_cons, List.map_nil]); first | done | rfl | (simp only [List.length_drop, List.length_take]; rfl)) ?_
                          with_reducible refine (trefoillaw12_Own.calls _ _ l0_0 a0_1 a0_2 t280 t283 t284 _ ?side1 ?side2 A16.out).mono ?_
                          (case side1 => repeat (first | exact (Kd.C_below HR0_0.out HB.out) | (with_reducible refine Kd.C_alloc ?_ _) | (with_reducible refine Kd.C_drewN ?_ _) | (with_reducible refine Kd.C_drew ?_)))
                          (case side2 => exact HC0_0.out)
                          rintro e w41 ⟨v281, rfl, ho0, hb⟩
                          refine ⟨_, rfl, ?_⟩
                          have n0_ := Aside0.mk (Kd.R_elder' (by (with_reducible repeat (first | apply Kd.R_alloc | apply Kd.R_drewN | apply Kd.R_drew)); exact HO264.out) (Kd.R_base ho0) hb)
                          have n1_ := Aside0.mk (Kd.R_elder' (by (with_reducible repeat (first | apply Kd.R_alloc | apply Kd.R_drewN | apply Kd.R_drew)); exact HO269.out) (Kd.R_base ho0) hb)
                          have n2_ := Aside0.mk (Kd.R_lower (Kd.R_new' (Kd.R_new' ho0 (Kd.R_lt (by (with_reducible repeat (first | apply Kd.R_alloc | apply Kd.R_drewN | apply Kd.R_drew)); exact HO264.out))) (Kd.R_lt (by (with_reducible repeat (first | apply Kd.R_alloc | apply Kd.R_drewN | apply Kd.R_drew)); exact HO269.out))) (below_size (by repeat (first | (with_reducible first | exact HB.out | apply below_alloc | apply pw_below_drewN | apply below_drew1 | refine below_set ?_ GE259.out | refine below_set ?_ GE273.out) | exact HB.out))))
                          have n3_ := Aside0.mk (blk_below (g := gb259) (o := .cells #[.slice A0_0 l0_0.length c0_0, .int .i64 a0_1, .int .i64 a0_2] 24 (0, 0)) (by (with_reducible repeat (first | refine blk_drewN ?_ _ | refine blk_drew ?_ | refine blk_alloc ?_ _)); exact BK259.out) hb)
                          have n4_ := Aside0.mk (blk_below (g := gb273) (o := .cells #[.slice Ao36 t267.length co36, .int .i64 t270, .int .i64 t271] 24 (0, 0)) (by (with_reducible repeat (first | refine blk_drewN ?_ _ | refine blk_drew ?_ | refine blk_alloc ?_ _)); exact BK273.out) hb)
                          have n5_ := Aside0.mk (below_step (by repeat (first | (with_reducible first | exact HB.out | apply below_alloc | apply pw_below_drewN | apply below_drew1 | refine below_set ?_ GE259.out | refine below_set ?_ GE273.out) | exact HB.out)) hb)
                          clear HO264
                          clear HO269
                          clear BK259
                          clear BK273
                          clear HB
                          have HO264 := n0_
                          have HO269 := n1_
                          have HO282 := n2_
                          have BK259 := n3_
                          have BK273 := n4_
                          have HB := n5_
                          clear n0_ n1_ n2_ n3_ n4_ n5_
                          (try clear hb)
                          (try clear hb2)
                          (try clear hk)
                          (try clear hi)
                          (try clear ho0)
                          obtain ⟨Ao42, co42, eo42⟩ := Kd.R_slice HO282.out
                          (first | subst eo42 | (injection eo42 with f1_ f2_ f3_; have f4_ := f1_.symm; have f5_ := f3_.symm; clear f1_ f2_ f3_; subst f4_; subst f5_))
                          refine hK.out _ _ ⟨(blk_cell BK259.out 0).trans rfl, (blk_cell BK259.out 1).trans rfl, (blk_cell BK259.out 2).trans rfl, (blk_cell BK273.out 0).trans rfl, (blk_cell BK273.out 1).trans rfl, (blk_cell BK273.out 2).trans rfl⟩ (fun hHeld => ?_)
                          clear hK K
                          refine norm_ (a' := ?_) ?_ ?_
                          rotate_left
                          · show Act.put _ (some 41) _ = _
                            simp only [Act.put, List.setIfInBounds_toArray, List.set_cons_zero, List.set_cons_succ, i64_w, i32_w]
                            rfl
                          refine one_ (i := 2) (N := some 42) #[true, true, true, true, false, false, false, false] rfl rfl (one_of HT_.out (by kernel_rfl)) (by decide) (fun K hK => ?_)
                          refine goes_ Tryd.func18 (by kernel_rfl) rfl #[.agg #[.slice Ao42 t280.length co42, .int .i64 t283, .int .i64 t284]] (by rfl) rfl rfl (by (try simp only [List.map_toArray, List.map_cons, List.map_nil]); first | done | rfl | (simp only [List.length_drop, List.length_take]; rfl)) ?_
                          with_reducible refine (deque_Items.calls kj2 _ _ t280 t283 t284 t285 _ ?side1 ?side2 A17.out).mono ?_
                          (case side1 => repeat (first | exact (Kd.R_reads' HO282.out).2.2 | (with_reducible refine Kd.C_alloc ?_ _) | (with_reducible refine Kd.C_drewN ?_ _) | (with_reducible refine Kd.C_drew ?_)))
                          (case side2 => exact (Kd.R_reads' HO282.out).2.1)
                          rintro e w43 ⟨v286, rfl, ho0, hb⟩
                          refine ⟨_, rfl, ?_⟩
                          have n0_ := Aside0.mk (Kd.R_elder' (by (with_reducible repeat (first | apply Kd.R_alloc | apply Kd.R_drewN | apply Kd.R_drew)); exact HO264.out) (Kd.R_base ho0) hb)
                          have n1_ := Aside0.mk (Kd.R_elder' (by (with_reducible repeat (first | apply Kd.R_alloc | apply Kd.R_drewN | apply Kd.R_drew)); exact HO269.out) (Kd.R_base ho0) hb)
                          have n2_ := Aside0.mk (Kd.R_elder' (by (with_reducible repeat (first | apply Kd.R_alloc | apply Kd.R_drewN | apply Kd.R_drew)); exact HO282.out) (Kd.R_base ho0) hb)
                          have n3_ := Aside0.mk (Kd.R_lower (Kd.R_new' (Kd.R_new' (Kd.R_new' ho0 (Kd.R_lt (by (with_reducible repeat (first | apply Kd.R_alloc | apply Kd.R_drewN | apply Kd.R_drew)); exact HO264.out))) (Kd.R_lt (by (with_reducible repeat (first | apply Kd.R_alloc | apply Kd.R_drewN | apply Kd.R_drew)); exact HO269.out))) (Kd.R_lt (by (with_reducible repeat (first | apply Kd.R_alloc | apply Kd.R_drewN | apply Kd.R_drew)); exact HO282.out))) (below_size (by repeat (first | (with_reducible first | exact HB.out | apply below_alloc | apply pw_below_drewN | apply below_drew1 | refine below_set ?_ GE259.out | refine below_set ?_ GE273.out) | exact HB.out))))
                          have n4_ := Aside0.mk (blk_below (g := gb259) (o := .cells #[.slice A0_0 l0_0.length c0_0, .int .i64 a0_1, .int .i64 a0_2] 24 (0, 0)) (by (with_reducible repeat (first | refine blk_drewN ?_ _ | refine blk_drew ?_ | refine blk_alloc ?_ _)); exact BK259.out) hb)
                          have n5_ := Aside0.mk (blk_below (g := gb273) (o := .cells #[.slice Ao36 t267.length co36, .int .i64 t270, .int .i64 t271] 24 (0, 0)) (by (with_reducible repeat (first | refine blk_drewN ?_ _ | refine blk_drew ?_ | refine blk_alloc ?_ _)); exact BK273.out) hb)
                          have n6_ := Aside0.mk (below_step (by repeat (first | (with_reducible first | exact HB.out | apply below_alloc | apply pw_below_drewN | apply below_drew1 | refine below_set ?_ GE259.out | refine below_set ?_ GE273.out) | exact HB.out)) hb)
                          clear HO264
                          clear HO269
                          clear HO282
                          clear BK259
                          clear BK273
                          clear HB
                          have HO264 := n0_
                          have HO269 := n1_
                          have HO282 := n2_
                          have HO287 := n3_
                          have BK259 := n4_
                          have BK273 := n5_
                          have HB := n6_
                          clear n0_ n1_ n2_ n3_ n4_ n5_ n6_
                          (try clear hb)
                          (try clear hb2)
                          (try clear hk)
                          (try clear hi)
                          (try clear ho0)
                          refine hK.out _ _ ⟨(blk_cell BK259.out 0).trans rfl, (blk_cell BK259.out 1).trans rfl, (blk_cell BK259.out 2).trans rfl, (blk_cell BK273.out 0).trans rfl, (blk_cell BK273.out 1).trans rfl, (blk_cell BK273.out 2).trans rfl⟩ (fun hHeld => ?_)
                          clear hK K
                          refine norm_ (a' := ?_) ?_ ?_
                          rotate_left
                          · show Act.put _ (some 42) _ = _
                            simp only [Act.put, List.setIfInBounds_toArray, List.set_cons_zero, List.set_cons_succ, i64_w, i32_w]
                            rfl
                          refine one_ (i := 4) (N := some 44) #[true, true, true, true, true, false, false, false] rfl rfl (one_of HT_.out (by kernel_rfl)) (by decide) (fun K hK => ?_)
                          refine goes_ Tryd.func10 (by kernel_rfl) rfl #[.agg #[.slice Ao36 t267.length co36, .int .i64 t270, .int .i64 t271]] (by rfl) rfl rfl (by (try simp only [List.map_toArray, List.map_cons, List.map_nil]); first | done | rfl | (simp only [List.length_drop, List.length_take]; rfl)) ?_
                          with_reducible refine (trefoillaw12_Own.calls _ _ t267 t270 t271 t288 t291 t292 _ ?side1 ?side2 A18.out).mono ?_
                          (case side1 => repeat (first | exact (Kd.R_reads' HO269.out).2.2 | (with_reducible refine Kd.C_alloc ?_ _) | (with_reducible refine Kd.C_drewN ?_ _) | (with_reducible refine Kd.C_drew ?_)))
                          (case side2 => exact (Kd.R_reads' HO269.out).2.1)
                          rintro e w44 ⟨v289, rfl, ho0, hb⟩
                          refine ⟨_, rfl, ?_⟩
                          have n0_ := Aside0.mk (Kd.R_elder' (by (with_reducible repeat (first | apply Kd.R_alloc | apply Kd.R_drewN | apply Kd.R_drew)); exact HO264.out) (Kd.R_base ho0) hb)
                          have n1_ := Aside0.mk (Kd.R_elder' (by (with_reducible repeat (first | apply Kd.R_alloc | apply Kd.R_drewN | apply Kd.R_drew)); exact HO269.out) (Kd.R_base ho0) hb)
                          have n2_ := Aside0.mk (Kd.R_elder' (by (with_reducible repeat (first | apply Kd.R_alloc | apply Kd.R_drewN | apply Kd.R_drew)); exact HO282.out) (Kd.R_base ho0) hb)
                          have n3_ := Aside0.mk (Kd.R_elder' (by (with_reducible repeat (first | apply Kd.R_alloc | apply Kd.R_drewN | apply Kd.R_drew)); exact HO287.out) (Kd.R_base ho0) hb)
                          have n4_ := Aside0.mk (Kd.R_lower (Kd.R_new' (Kd.R_new' (Kd.R_new' (Kd.R_new' ho0 (Kd.R_lt (by (with_reducible repeat (first | apply Kd.R_alloc | apply Kd.R_drewN | apply Kd.R_drew)); exact HO264.out))) (Kd.R_lt (by (with_reducible repeat (first | apply Kd.R_alloc | apply Kd.R_drewN | apply Kd.R_drew)); exact HO269.out))) (Kd.R_lt (by (with_reducible repeat (first | apply Kd.R_alloc | apply Kd.R_drewN | apply Kd.R_drew)); exact HO282.out))) (Kd.R_lt (by (with_reducible repeat (first | apply Kd.R_alloc | apply Kd.R_drewN | apply Kd.R_drew)); exact HO287.out))) (below_size (by repeat (first | (with_reducible first | exact HB.out | apply below_alloc | apply pw_below_drewN | apply below_drew1 | refine below_set ?_ GE259.out | refine below_set ?_ GE273.out) | exact HB.out))))
                          have n5_ := Aside0.mk (blk_below (g := gb259) (o := .cells #[.slice A0_0 l0_0.length c0_0, .int .i64 a0_1, .int .i64 a0_2] 24 (0, 0)) (by (with_reducible repeat (first | refine blk_drewN ?_ _ | refine blk_drew ?_ | refine blk_alloc ?_ _)); exact BK259.out) hb)
                          have n6_ := Aside0.mk (blk_below (g := gb273) (o := .cells #[.slice Ao36 t267.length co36, .int .i64 t270, .int .i64 t271] 24 (0, 0)) (by (with_reducible repeat (first | refine blk_drewN ?_ _ | refine blk_drew ?_ | refine blk_alloc ?_ _)); exact BK273.out) hb)
                          have n7_ := Aside0.mk (below_step (by repeat (first | (with_reducible first | exact HB.out | apply below_alloc | apply pw_below_drewN | apply below_drew1 | refine below_set ?_ GE259.out | refine below_set ?_ GE273.out) | exact HB.out)) hb)
                          clear HO264
                          clear HO269
                          clear HO282
                          clear HO287
                          clear BK259
                          clear BK273
                          clear HB
                          have HO264 := n0_
                          have HO269 := n1_
                          have HO282 := n2_
                          have HO287 := n3_
                          have HO290 := n4_
                          have BK259 := n5_
                          have BK273 := n6_
                          have HB := n7_
                          clear n0_ n1_ n2_ n3_ n4_ n5_ n6_ n7_
                          (try clear hb)
                          (try clear hb2)
                          (try clear hk)
                          (try clear hi)
                          (try clear ho0)
                          obtain ⟨Ao45, co45, eo45⟩ := Kd.R_slice HO290.out
                          (first | subst eo45 | (injection eo45 with f1_ f2_ f3_; have f4_ := f1_.symm; have f5_ := f3_.symm; clear f1_ f2_ f3_; subst f4_; subst f5_))
                          refine hK.out _ _ ⟨(blk_cell BK259.out 0).trans rfl, (blk_cell BK259.out 1).trans rfl, (blk_cell BK259.out 2).trans rfl, (blk_cell BK273.out 0).trans rfl, (blk_cell BK273.out 1).trans rfl, (blk_cell BK273.out 2).trans rfl⟩ (fun hHeld => ?_)
                          clear hK K
                          refine norm_ (a' := ?_) ?_ ?_
                          rotate_left
                          · show Act.put _ (some 44) _ = _
                            simp only [Act.put, List.setIfInBounds_toArray, List.set_cons_zero, List.set_cons_succ, i64_w, i32_w]
                            rfl
                          refine one_ (i := 5) (N := some 45) #[true, true, true, true, true, true, false, false] rfl rfl (one_of HT_.out (by kernel_rfl)) (by decide) (fun K hK => ?_)
                          refine goes_ Tryd.func18 (by kernel_rfl) rfl #[.agg #[.slice Ao45 t288.length co45, .int .i64 t291, .int .i64 t292]] (by rfl) rfl rfl (by (try simp only [List.map_toArray, List.map_cons, List.map_nil]); first | done | rfl | (simp only [List.length_drop, List.length_take]; rfl)) ?_
                          with_reducible refine (deque_Items.calls kj2 _ _ t288 t291 t292 t293 _ ?side1 ?side2 A19.out).mono ?_
                          (case side1 => repeat (first | exact (Kd.R_reads' HO290.out).2.2 | (with_reducible refine Kd.C_alloc ?_ _) | (with_reducible refine Kd.C_drewN ?_ _) | (with_reducible refine Kd.C_drew ?_)))
                          (case side2 => exact (Kd.R_reads' HO290.out).2.1)
                          rintro e w46 ⟨v294, rfl, ho0, hb⟩
                          refine ⟨_, rfl, ?_⟩
                          have n0_ := Aside0.mk (Kd.R_elder' (by (with_reducible repeat (first | apply Kd.R_alloc | apply Kd.R_drewN | apply Kd.R_drew)); exact HO264.out) (Kd.R_base ho0) hb)
                          have n1_ := Aside0.mk (Kd.R_elder' (by (with_reducible repeat (first | apply Kd.R_alloc | apply Kd.R_drewN | apply Kd.R_drew)); exact HO269.out) (Kd.R_base ho0) hb)
                          have n2_ := Aside0.mk (Kd.R_elder' (by (with_reducible repeat (first | apply Kd.R_alloc | apply Kd.R_drewN | apply Kd.R_drew)); exact HO282.out) (Kd.R_base ho0) hb)
                          have n3_ := Aside0.mk (Kd.R_elder' (by (with_reducible repeat (first | apply Kd.R_alloc | apply Kd.R_drewN | apply Kd.R_drew)); exact HO287.out) (Kd.R_base ho0) hb)
                          have n4_ := Aside0.mk (Kd.R_elder' (by (with_reducible repeat (first | apply Kd.R_alloc | apply Kd.R_drewN | apply Kd.R_drew)); exact HO290.out) (Kd.R_base ho0) hb)
                          have n5_ := Aside0.mk (Kd.R_lower (Kd.R_new' (Kd.R_new' (Kd.R_new' (Kd.R_new' (Kd.R_new' ho0 (Kd.R_lt (by (with_reducible repeat (first | apply Kd.R_alloc | apply Kd.R_drewN | apply Kd.R_drew)); exact HO264.out))) (Kd.R_lt (by (with_reducible repeat (first | apply Kd.R_alloc | apply Kd.R_drewN | apply Kd.R_drew)); exact HO269.out))) (Kd.R_lt (by (with_reducible repeat (first | apply Kd.R_alloc | apply Kd.R_drewN | apply Kd.R_drew)); exact HO282.out))) (Kd.R_lt (by (with_reducible repeat (first | apply Kd.R_alloc | apply Kd.R_drewN | apply Kd.R_drew)); exact HO287.out))) (Kd.R_lt (by (with_reducible repeat (first | apply Kd.R_alloc | apply Kd.R_drewN | apply Kd.R_drew)); exact HO290.out))) (below_size (by repeat (first | (with_reducible first | exact HB.out | apply below_alloc | apply pw_below_drewN | apply below_drew1 | refine below_set ?_ GE259.out | refine below_set ?_ GE273.out) | exact HB.out))))
                          have n6_ := Aside0.mk (blk_below (g := gb259) (o := .cells #[.slice A0_0 l0_0.length c0_0, .int .i64 a0_1, .int .i64 a0_2] 24 (0, 0)) (by (with_reducible repeat (first | refine blk_drewN ?_ _ | refine blk_drew ?_ | refine blk_alloc ?_ _)); exact BK259.out) hb)
                          have n7_ := Aside0.mk (blk_below (g := gb273) (o := .cells #[.slice Ao36 t267.length co36, .int .i64 t270, .int .i64 t271] 24 (0, 0)) (by (with_reducible repeat (first | refine blk_drewN ?_ _ | refine blk_drew ?_ | refine blk_alloc ?_ _)); exact BK273.out) hb)
                          have n8_ := Aside0.mk (below_step (by repeat (first | (with_reducible first | exact HB.out | apply below_alloc | apply pw_below_drewN | apply below_drew1 | refine below_set ?_ GE259.out | refine below_set ?_ GE273.out) | exact HB.out)) hb)
                          clear HO264
                          clear HO269
                          clear HO282
                          clear HO287
                          clear HO290
                          clear BK259
                          clear BK273
                          clear HB
                          have HO264 := n0_
                          have HO269 := n1_
                          have HO282 := n2_
                          have HO287 := n3_
                          have HO290 := n4_
                          have HO295 := n5_
                          have BK259 := n6_
                          have BK273 := n7_
                          have HB := n8_
                          clear n0_ n1_ n2_ n3_ n4_ n5_ n6_ n7_ n8_
                          (try clear hb)
                          (try clear hb2)
                          (try clear hk)
                          (try clear hi)
                          (try clear ho0)
                          refine hK.out _ _ ⟨(blk_cell BK259.out 0).trans rfl, (blk_cell BK259.out 1).trans rfl, (blk_cell BK259.out 2).trans rfl, (blk_cell BK273.out 0).trans rfl, (blk_cell BK273.out 1).trans rfl, (blk_cell BK273.out 2).trans rfl⟩ (fun hHeld => ?_)
                          clear hK K
                          refine norm_ (a' := ?_) ?_ ?_
                          rotate_left
                          · show Act.put _ (some 45) _ = _
                            simp only [Act.put, List.setIfInBounds_toArray, List.set_cons_zero, List.set_cons_succ, i64_w, i32_w]
                            rfl
                          refine pure_ (i := 6) (N := some 7) (v := ?_) (a' := ?_) #[true, true, true, true, true, true, true, false] rfl rfl (any_of HT_.out (by kernel_rfl)) (fun _ _ _ h => h) (Or.inl ⟨by rfl, ?_⟩) ?_ ?_
                          rotate_left
                          · intro w'
                            go_simp
                            with_reducible rfl
                          rotate_left
                          · simp only [Act.put, List.setIfInBounds_toArray, List.set_cons_zero, List.set_cons_succ, i64_w, i32_w]
                            rfl
                          refine pure_ (i := 7) (N := some 8) (v := ?_) (a' := ?_) #[true, true, true, true, true, true, true, true] rfl rfl (any_of HT_.out (by kernel_rfl)) (fun _ _ _ h => h) (Or.inl ⟨by rfl, ?_⟩) ?_ ?_
                          rotate_left
                          · intro w'
                            go_simp
                            with_reducible rfl
                          rotate_left
                          · simp only [Act.put, List.setIfInBounds_toArray, List.set_cons_zero, List.set_cons_succ, i64_w, i32_w]
                            rfl
                          refine done_ (done_of HT_.out (by kernel_rfl)) ?_
                          obtain ⟨Ao47, co47, eo47⟩ := Kd.R_slice HO295.out
                          subst eo47
                          obtain ⟨Ao48, co48, eo48⟩ := Kd.R_slice HO287.out
                          subst eo48
                          have q49 : ((t285.length : Int) : Int) ≤ ((t293.length : Int) : Int) := of_decide_eq_true (by first | (with_reducible assumption) | assumption)
                          obtain ⟨i049, hi049, _, hsz49, _⟩ := info_parts info3
                          have hroom49 : t293.length ≤ co47 := (Kd.R_reads' HO295.out).2.1
                          have hC49 : Kd.C (Kd.int .i64) _ Ao47 t293.length t293 := (Kd.R_reads' HO295.out).2.2
                          have hcut49 := cut_to (P := Tryd.prog) 22 3 .i64 Tryd.underlying22 hi049 Ao47 t293.length co47 (t285.length : Int) (of_decide_eq_true (by first | (with_reducible assumption) | assumption)) q49 hroom49
                          have hr49 := Kd.C_take (m := ((t285.length : Int) : Int).toNat) hC49 (by omega)
                          have hy49 : y296.length = ((t285.length : Int) : Int).toNat := (by rw [Ny296.out, List.length_take]; omega)
                          rw [← Ny296.out] at hr49
                          rw [← hy49] at hcut49
                          have HR299 := Aside0.mk hr49
                          have HC299 := Aside0.mk (show y296.length ≤ co47 from by omega)
                          clear hr49 hC49 hroom49 hi049 hsz49
                          have KY49 := Aside0.mk hy49
                          clear hy49
                          have KL49 := Aside0.mk (show ((t285.length : Int) : Int).toNat ≤ t293.length from by omega)
                          replace q49 := eq_true q49
                          try go_wp2_with (first | (go_at_call 20; (with_reducible refine (trefoilref02_Ints.calls kj2 _ _ y296 _ _ t285 true _ ?side1 ?side2 ?side3 ?side4 A23.out).mono ?_); (case side1 => repeat (first | exact (by repeat (first | (with_reducible exact HR299.out) | (with_reducible refine Kd.C_alloc ?_ _) | (with_reducible refine Kd.C_drewN ?_ _) | (with_reducible refine Kd.C_drew ?_) | exact HR299.out)) | (with_reducible refine Kd.C_alloc ?_ _) | (with_reducible refine Kd.C_drewN ?_ _) | (with_reducible refine Kd.C_drew ?_))); (case side2 => exact HC299.out); (case side3 => repeat (first | exact (Kd.R_reads' HO287.out).2.2 | (with_reducible refine Kd.C_alloc ?_ _) | (with_reducible refine Kd.C_drewN ?_ _) | (with_reducible refine Kd.C_drew ?_))); (case side4 => exact (Kd.R_reads' HO287.out).2.1); rintro e w' ⟨rfl, ⟨nd, rfl⟩⟩; have p301 : 0 ≤ ((t285.length : Int) : Int) := of_decide_eq_true (by first | (with_reducible assumption) | assumption); have q301 : (t285.length : Int) < (t293.length : Int) := of_decide_eq_true (by first | (with_reducible assumption) | assumption); obtain ⟨ad301, e301, hx301_0⟩ := Kd.at_int (Kd.R_reads' HO295.out).2.2 (t285.length : Int) p301 q301; cases e301; (try simp only [Go.IntWalk.toNatUp] at hx301_0); replace p301 := eq_true p301; replace q301 := eq_true q301; have hcz50_0 : w46.cell? ⟨gb273, 0, none⟩ = some (.slice Ao36 t267.length co36) := (blk_cell BK273.out 0).trans rfl; have hcz50_1 : w46.cell? ⟨gb273, 1, none⟩ = some (.int .i64 t270) := (blk_cell BK273.out 1).trans rfl; have hcz50_2 : w46.cell? ⟨gb273, 2, none⟩ = some (.int .i64 t271) := (blk_cell BK273.out 2).trans rfl; have hfz50_0 := blk_frozen BK273.out 0; have hfz50_1 := blk_frozen BK273.out 1; have hfz50_2 := blk_frozen BK273.out 2; have hcz51_0 : w46.cell? ⟨gb259, 0, none⟩ = some (.slice A0_0 l0_0.length c0_0) := (blk_cell BK259.out 0).trans rfl; have hcz51_1 : w46.cell? ⟨gb259, 1, none⟩ = some (.int .i64 a0_1) := (blk_cell BK259.out 1).trans rfl; have hcz51_2 : w46.cell? ⟨gb259, 2, none⟩ = some (.int .i64 a0_2) := (blk_cell BK259.out 2).trans rfl; have hfz51_0 := blk_frozen BK259.out 0; have hfz51_1 := blk_frozen BK259.out 1; have hfz51_2 := blk_frozen BK259.out 2) | (go_at_call 10; (with_reducible refine (trefoillaw12_Own.calls _ _ t267 t270 t271 t302 t305 t306 _ ?side1 ?side2 A29.out).mono ?_); (case side1 => repeat (first | exact (Kd.R_reads' HO269.out).2.2 | (with_reducible refine Kd.C_alloc ?_ _) | (with_reducible refine Kd.C_drewN ?_ _) | (with_reducible refine Kd.C_drew ?_))); (case side2 => exact (Kd.R_reads' HO269.out).2.1); rintro e w52 ⟨v303, rfl, ho0, hb⟩; have n0_ := Aside0.mk (Kd.R_elder' (by (with_reducible repeat (first | apply Kd.R_alloc | apply Kd.R_drewN | apply Kd.R_drew)); exact HO264.out) (Kd.R_base ho0) hb); have n1_ := Aside0.mk (Kd.R_elder' (by (with_reducible repeat (first | apply Kd.R_alloc | apply Kd.R_drewN | apply Kd.R_drew)); exact HO269.out) (Kd.R_base ho0) hb); have n2_ := Aside0.mk (Kd.R_elder' (by (with_reducible repeat (first | apply Kd.R_alloc | apply Kd.R_drewN | apply Kd.R_drew)); exact HO282.out) (Kd.R_base ho0) hb); have n3_ := Aside0.mk (Kd.R_elder' (by (with_reducible repeat (first | apply Kd.R_alloc | apply Kd.R_drewN | apply Kd.R_drew)); exact HO287.out) (Kd.R_base ho0) hb); have n4_ := Aside0.mk (Kd.R_elder' (by (with_reducible repeat (first | apply Kd.R_alloc | apply Kd.R_drewN | apply Kd.R_drew)); exact HO290.out) (Kd.R_base ho0) hb); have n5_ := Aside0.mk (Kd.R_elder' (by (with_reducible repeat (first | apply Kd.R_alloc | apply Kd.R_drewN | apply Kd.R_drew)); exact HO295.out) (Kd.R_base ho0) hb); have n6_ := Aside0.mk (Kd.R_lower (Kd.R_new' (Kd.R_new' (Kd.R_new' (Kd.R_new' (Kd.R_new' (Kd.R_new' ho0 (Kd.R_lt (by (with_reducible repeat (first | apply Kd.R_alloc | apply Kd.R_drewN | apply Kd.R_drew)); exact HO264.out))) (Kd.R_lt (by (with_reducible repeat (first | apply Kd.R_alloc | apply Kd.R_drewN | apply Kd.R_drew)); exact HO269.out))) (Kd.R_lt (by (with_reducible repeat (first | apply Kd.R_alloc | apply Kd.R_drewN | apply Kd.R_drew)); exact HO282.out))) (Kd.R_lt (by (with_reducible repeat (first | apply Kd.R_alloc | apply Kd.R_drewN | apply Kd.R_drew)); exact HO287.out))) (Kd.R_lt (by (with_reducible repeat (first | apply Kd.R_alloc | apply Kd.R_drewN | apply Kd.R_drew)); exact HO290.out))) (Kd.R_lt (by (with_reducible repeat (first | apply Kd.R_alloc | apply Kd.R_drewN | apply Kd.R_drew)); exact HO295.out))) (below_size (by repeat (first | (with_reducible first | exact HB.out | apply below_alloc | apply pw_below_drewN | apply below_drew1 | refine below_set ?_ GE259.out | refine below_set ?_ GE273.out) | exact HB.out)))); have n7_ := Aside0.mk (blk_below (g := gb259) (o := .cells #[.slice A0_0 l0_0.length c0_0, .int .i64 a0_1, .int .i64 a0_2] 24 (0, 0)) (by (with_reducible repeat (first | refine blk_drewN ?_ _ | refine blk_drew ?_ | refine blk_alloc ?_ _)); exact BK259.out) hb); have n8_ := Aside0.mk (blk_below (g := gb273) (o := .cells #[.slice Ao36 t267.length co36, .int .i64 t270, .int .i64 t271] 24 (0, 0)) (by (with_reducible repeat (first | refine blk_drewN ?_ _ | refine blk_drew ?_ | refine blk_alloc ?_ _)); exact BK273.out) hb); have n9_ := Aside0.mk (Kd.C_below (by repeat (first | (with_reducible exact HR299.out) | (with_reducible refine Kd.C_alloc ?_ _) | (with_reducible refine Kd.C_drewN ?_ _) | (with_reducible refine Kd.C_drew ?_) | exact HR299.out)) hb); have n10_ := Aside0.mk (below_step (by repeat (first | (with_reducible first | exact HB.out | apply below_alloc | apply pw_below_drewN | apply below_drew1 | refine below_set ?_ GE259.out | refine below_set ?_ GE273.out) | exact HB.out)) hb); clear HO264; clear HO269; clear HO282; clear HO287; clear HO290; clear HO295; clear BK259; clear BK273; clear HR299; clear HB; have HO264 := n0_; have HO269 := n1_; have HO282 := n2_; have HO287 := n3_; have HO290 := n4_; have HO295 := n5_; have HO304 := n6_; have BK259 := n7_; have BK273 := n8_; have HR299 := n9_; have HB := n10_; clear n0_ n1_ n2_ n3_ n4_ n5_ n6_ n7_ n8_ n9_ n10_; (try clear hb); (try clear hb2); (try clear hk); (try clear hi); (try clear ho0); obtain ⟨Ao53, co53, eo53⟩ := Kd.R_slice HO304.out; subst eo53) | (go_at_call 23; (with_reducible refine (deque_Check.calls _ _ t302 t305 t306 t307 _ ?side1 ?side2 A30.out).mono ?_); (case side1 => repeat (first | exact (Kd.R_reads' HO304.out).2.2 | (with_reducible refine Kd.C_alloc ?_ _) | (with_reducible refine Kd.C_drewN ?_ _) | (with_reducible refine Kd.C_drew ?_))); (case side2 => exact (Kd.R_reads' HO304.out).2.1); rintro e w54 ⟨rfl, hb⟩; have n0_ := Aside0.mk (Kd.R_below (by (with_reducible repeat (first | apply Kd.R_alloc | apply Kd.R_drewN | apply Kd.R_drew)); exact HO264.out) hb); have n1_ := Aside0.mk (Kd.R_below (by (with_reducible repeat (first | apply Kd.R_alloc | apply Kd.R_drewN | apply Kd.R_drew)); exact HO269.out) hb); have n2_ := Aside0.mk (Kd.R_below (by (with_reducible repeat (first | apply Kd.R_alloc | apply Kd.R_drewN | apply Kd.R_drew)); exact HO282.out) hb); have n3_ := Aside0.mk (Kd.R_below (by (with_reducible repeat (first | apply Kd.R_alloc | apply Kd.R_drewN | apply Kd.R_drew)); exact HO287.out) hb); have n4_ := Aside0.mk (Kd.R_below (by (with_reducible repeat (first | apply Kd.R_alloc | apply Kd.R_drewN | apply Kd.R_drew)); exact HO290.out) hb); have n5_ := Aside0.mk (Kd.R_below (by (with_reducible repeat (first | apply Kd.R_alloc | apply Kd.R_drewN | apply Kd.R_drew)); exact HO295.out) hb); have n6_ := Aside0.mk (Kd.R_below (by (with_reducible repeat (first | apply Kd.R_alloc | apply Kd.R_drewN | apply Kd.R_drew)); exact HO304.out) hb); have n7_ := Aside0.mk (blk_below (g := gb259) (o := .cells #[.slice A0_0 l0_0.length c0_0, .int .i64 a0_1, .int .i64 a0_2] 24 (0, 0)) (by (with_reducible repeat (first | refine blk_drewN ?_ _ | refine blk_drew ?_ | refine blk_alloc ?_ _)); exact BK259.out) hb); have n8_ := Aside0.mk (blk_below (g := gb273) (o := .cells #[.slice Ao36 t267.length co36, .int .i64 t270, .int .i64 t271] 24 (0, 0)) (by (with_reducible repeat (first | refine blk_drewN ?_ _ | refine blk_drew ?_ | refine blk_alloc ?_ _)); exact BK273.out) hb); have n9_ := Aside0.mk (Kd.C_below (by repeat (first | (with_reducible exact HR299.out) | (with_reducible refine Kd.C_alloc ?_ _) | (with_reducible refine Kd.C_drewN ?_ _) | (with_reducible refine Kd.C_drew ?_) | exact HR299.out)) hb); have n10_ := Aside0.mk (below_step (by repeat (first | (with_reducible first | exact HB.out | apply below_alloc | apply pw_below_drewN | apply below_drew1 | refine below_set ?_ GE259.out | refine below_set ?_ GE273.out) | exact HB.out)) hb); clear HO264; clear HO269; clear HO282; clear HO287; clear HO290; clear HO295; clear HO304; clear BK259; clear BK273; clear HR299; clear HB; have HO264 := n0_; have HO269 := n1_; have HO282 := n2_; have HO287 := n3_; have HO290 := n4_; have HO295 := n5_; have HO304 := n6_; have BK259 := n7_; have BK273 := n8_; have HR299 := n9_; have HB := n10_; clear n0_ n1_ n2_ n3_ n4_ n5_ n6_ n7_ n8_ n9_ n10_; (try clear hb); (try clear hb2); (try clear hk); (try clear hi)))
                          go_ret
                          exact ⟨by first | rfl | (simp [errW_none, errW_some] <;> rfl) | (simp [*, errW_none, errW_some] <;> rfl), by repeat (first | (with_reducible first | exact HB.out | apply below_alloc | apply pw_below_drewN | apply below_drew1 | refine below_set ?_ GE259.out | refine below_set ?_ GE273.out) | exact HB.out)⟩
                        · rw [if_neg c28] at H
                          exact absurd H (by simp)
                      · rw [if_neg c27] at H
                        exact absurd H (by simp)
                    · rw [if_neg c26] at H
                      exact absurd H (by simp)
                  · rw [if_neg c25] at H
                    exact absurd H (by simp)
                · replace c24 := Bool.eq_false_iff.mpr c24
                  subst c24
                  have H1 : (none) = some r := by rw [if_neg (show ¬ (false = true) by decide)] at H; exact H
                  clear H
                  have H := H1
                  clear H1
                  exact absurd H (by simp)
              · rw [if_neg c22] at H
                exact absurd H (by simp)
            · rw [if_neg c21] at H
              exact absurd H (by simp)
          · rw [if_neg c20] at H
            exact absurd H (by simp)
        · rw [if_neg c15] at H
          have c15b0 : (t272 == 0) = false := beq_eq_false_iff_ne.mpr c15
          have c15b1 : (t272 != 0) = true := bne_iff_ne.mpr c15
          by_cases c55 : (t267.length : Int) = 0
          · rw [if_pos c55] at H
            have c55b0 : ((t267.length : Int) == 0) = true := beq_iff_eq.mpr c55
            have c55b1 : ((t267.length : Int) != 0) = false := bne_eq_false_iff_eq.mpr c55
            clear c55
            replace H := Option.bind_eq_some_iff.mp H
            obtain ⟨⟨t274, t277, t278⟩, A560, H⟩ := H
            replace H : ((deque_Check.f t274 t277 t278).bind fun t279 => (some ((t272 == 120) == (t279 != 0)))) = some r := H
            have A56 := Aside0.mk A560
            clear A560
            replace H := Option.bind_eq_some_iff.mp H
            obtain ⟨t279, A570, H⟩ := H
            replace H : (some ((t272 == 120) == (t279 != 0))) = some r := H
            have A57 := Aside0.mk A570
            clear A570
            obtain rfl := Option.some.inj H
            have hcz58_0 : wc.cell? ⟨gb259, 0, none⟩ = some (.slice A0_0 l0_0.length c0_0) := (blk_cell BK259.out 0).trans rfl
            have hcz58_1 : wc.cell? ⟨gb259, 1, none⟩ = some (.int .i64 a0_1) := (blk_cell BK259.out 1).trans rfl
            have hcz58_2 : wc.cell? ⟨gb259, 2, none⟩ = some (.int .i64 a0_2) := (blk_cell BK259.out 2).trans rfl
            have hfz58_0 := blk_frozen BK259.out 0
            have hfz58_1 := blk_frozen BK259.out 1
            have hfz58_2 := blk_frozen BK259.out 2
            go_wp2_with (first | ((with_reducible refine gate_callee (f := 10) rfl ?_); refine goesL_ (some 20) rfl rfl Tryd.func10 (by kernel_rfl) rfl #[.agg #[.slice A0_0 l0_0.length c0_0, .int .i64 a0_1, .int .i64 a0_2]] rfl (by (try simp only [List.map_toArray, List.map_cons, List.map_nil]); first | done | rfl | (simp only [List.length_drop, List.length_take]; rfl)) ?_; (with_reducible refine (trefoillaw12_Own.calls _ _ l0_0 a0_1 a0_2 t262 t265 t266 _ ?side1 ?side2 A13.out).mono ?_); (case side1 => repeat (first | exact (Kd.C_below HR0_0.out HB.out) | (with_reducible refine Kd.C_alloc ?_ _) | (with_reducible refine Kd.C_drewN ?_ _) | (with_reducible refine Kd.C_drew ?_))); (case side2 => exact HC0_0.out); rintro e w59 ⟨v263, rfl, ho0, hb⟩; refine ⟨_, rfl, ?_⟩; have n0_ := Aside0.mk (Kd.R_lower ho0 (below_size (by repeat (first | (with_reducible first | exact HB.out | apply below_alloc | apply pw_below_drewN | apply below_drew1 | refine below_set ?_ GE259.out) | exact HB.out)))); have n1_ := Aside0.mk (blk_below (g := gb259) (o := .cells #[.slice A0_0 l0_0.length c0_0, .int .i64 a0_1, .int .i64 a0_2] 24 (0, 0)) (by (with_reducible repeat (first | refine blk_drewN ?_ _ | refine blk_drew ?_ | refine blk_alloc ?_ _)); exact BK259.out) hb); have n2_ := Aside0.mk (below_step (by repeat (first | (with_reducible first | exact HB.out | apply below_alloc | apply pw_below_drewN | apply below_drew1 | refine below_set ?_ GE259.out) | exact HB.out)) hb); clear BK259; clear HB; have HO264 := n0_; have BK259 := n1_; have HB := n2_; clear n0_ n1_ n2_; (try clear hb); (try clear hb2); (try clear hk); (try clear hi); (try clear ho0); obtain ⟨Ao60, co60, eo60⟩ := Kd.R_slice HO264.out; subst eo60) | ((with_reducible refine gate_callee (f := 15) rfl ?_); refine goesL_ (some 22) rfl rfl Tryd.func15 (by kernel_rfl) rfl #[.agg #[.slice Ao60 t262.length co60, .int .i64 t265, .int .i64 t266], .int .i64 a1] rfl (by (try simp only [List.map_toArray, List.map_cons, List.map_nil]); first | done | rfl | (simp only [List.length_drop, List.length_take]; rfl)) ?_; (with_reducible refine (deque_Push.calls kj2 _ _ t262 t265 t266 a1 t267 t270 t271 t272 _ ?side1 ?side2 A14.out).mono ?_); (case side1 => repeat (first | exact (Kd.R_reads' HO264.out).2.2 | (with_reducible refine Kd.C_alloc ?_ _) | (with_reducible refine Kd.C_drewN ?_ _) | (with_reducible refine Kd.C_drew ?_))); (case side2 => exact (Kd.R_reads' HO264.out).2.1); rintro e w61 ⟨v268, rfl, ho0, hb⟩; refine ⟨_, rfl, ?_⟩; have n0_ := Aside0.mk (Kd.R_elder' (by (with_reducible repeat (first | apply Kd.R_alloc | apply Kd.R_drewN | apply Kd.R_drew)); exact HO264.out) (Kd.R_base ho0) hb); have n1_ := Aside0.mk (Kd.R_lower (Kd.R_new' ho0 (Kd.R_lt (by (with_reducible repeat (first | apply Kd.R_alloc | apply Kd.R_drewN | apply Kd.R_drew)); exact HO264.out))) (below_size (by repeat (first | (with_reducible first | exact HB.out | apply below_alloc | apply pw_below_drewN | apply below_drew1 | refine below_set ?_ GE259.out) | exact HB.out)))); have n2_ := Aside0.mk (blk_below (g := gb259) (o := .cells #[.slice A0_0 l0_0.length c0_0, .int .i64 a0_1, .int .i64 a0_2] 24 (0, 0)) (by (with_reducible repeat (first | refine blk_drewN ?_ _ | refine blk_drew ?_ | refine blk_alloc ?_ _)); exact BK259.out) hb); have n3_ := Aside0.mk (below_step (by repeat (first | (with_reducible first | exact HB.out | apply below_alloc | apply pw_below_drewN | apply below_drew1 | refine below_set ?_ GE259.out) | exact HB.out)) hb); clear HO264; clear BK259; clear HB; have HO264 := n0_; have HO269 := n1_; have BK259 := n2_; have HB := n3_; clear n0_ n1_ n2_ n3_; (try clear hb); (try clear hb2); (try clear hk); (try clear hi); (try clear ho0)) | ((with_reducible refine gate_dst (N := 5) rfl ?_); (try (refine gate_guard (by rfl) ?_; dsimp only)); refine box_event ?hg (N := 5) ?hd (cs := #[.slice none 0 0, .int .i64 0, .int .i64 0]) (t := 24) ?hr ?_; (case hd => rfl); (case hg => rfl); (case hr => first | (go_simp; done) | (go_simp; rfl)); intro gb273 hg w62 hbox hb; have n0_ := Aside0.mk (Kd.R_below (by (with_reducible repeat (first | apply Kd.R_alloc | apply Kd.R_drewN | apply Kd.R_drew)); exact HO264.out) hb); have n1_ := Aside0.mk (Kd.R_below (by (with_reducible repeat (first | apply Kd.R_alloc | apply Kd.R_drewN | apply Kd.R_drew)); exact HO269.out) hb); have n2_ := Aside0.mk (blk_below (g := gb259) (o := .cells #[.slice A0_0 l0_0.length c0_0, .int .i64 a0_1, .int .i64 a0_2] 24 (0, 0)) (by (with_reducible repeat (first | refine blk_drewN ?_ _ | refine blk_drew ?_ | refine blk_alloc ?_ _)); exact BK259.out) hb); have n3_ := Aside0.mk (below_step (by repeat (first | (with_reducible first | exact HB.out | apply below_alloc | apply pw_below_drewN | apply below_drew1 | refine below_set ?_ GE259.out) | exact HB.out)) hb); have n4_ := Aside0.mk (hbox); have n5_ := Aside0.mk ((by rw [hg]; exact (below_size (by repeat (first | (with_reducible first | exact HB.out | apply below_alloc | apply pw_below_drewN | apply below_drew1 | refine below_set ?_ GE259.out) | exact HB.out))) : w.heap.size ≤ gb273)); have n6_ := Aside0.mk ((by rw [hg]; exact (below_size (by repeat (first | (with_reducible first | exact HB.out | apply below_alloc | apply pw_below_drewN | apply below_drew1 | refine below_set ?_ GE259.out) | exact HB.out))) : w.heap.size ≤ gb273)); have n7_ := Aside0.mk ((by rw [hg]; exact Nat.ne_of_lt (blk_lt (g := gb259) (o := .cells #[.slice A0_0 l0_0.length c0_0, .int .i64 a0_1, .int .i64 a0_2] 24 (0, 0)) (by (with_reducible repeat (first | refine blk_drewN ?_ _ | refine blk_drew ?_ | refine blk_alloc ?_ _)); exact BK259.out)) : gb259 ≠ gb273)); have n8_ := Aside0.mk ((by rw [hg]; exact Nat.ne_of_gt (blk_lt (g := gb259) (o := .cells #[.slice A0_0 l0_0.length c0_0, .int .i64 a0_1, .int .i64 a0_2] 24 (0, 0)) (by (with_reducible repeat (first | refine blk_drewN ?_ _ | refine blk_drew ?_ | refine blk_alloc ?_ _)); exact BK259.out)) : gb273 ≠ gb259)); clear HO264; clear HO269; clear BK259; clear HB; have HO264 := n0_; have HO269 := n1_; have BK259 := n2_; have HB := n3_; have BK273 := n4_; have GW273 := n5_; have GE273 := n6_; have NB259_273 := n7_; have NB273_259 := n8_; clear n0_ n1_ n2_ n3_ n4_ n5_ n6_ n7_ n8_; clear hb hbox hg; obtain ⟨Ao63, co63, eo63⟩ := Kd.R_slice HO269.out; subst eo63; have hnb64 := NB273_259.out; have hnc64 := NB259_273.out; have hcz65_0 : w62.cell? ⟨gb273, 0, none⟩ = some (.slice none 0 0) := (blk_cell BK273.out 0).trans rfl; have hcz65_1 : w62.cell? ⟨gb273, 1, none⟩ = some (.int .i64 0) := (blk_cell BK273.out 1).trans rfl; have hcz65_2 : w62.cell? ⟨gb273, 2, none⟩ = some (.int .i64 0) := (blk_cell BK273.out 2).trans rfl; have hfz65_0 := blk_frozen BK273.out 0; have hfz65_1 := blk_frozen BK273.out 1; have hfz65_2 := blk_frozen BK273.out 2; have hcz66_0 : w62.cell? ⟨gb259, 0, none⟩ = some (.slice A0_0 l0_0.length c0_0) := (blk_cell BK259.out 0).trans rfl; have hcz66_1 : w62.cell? ⟨gb259, 1, none⟩ = some (.int .i64 a0_1) := (blk_cell BK259.out 1).trans rfl; have hcz66_2 : w62.cell? ⟨gb259, 2, none⟩ = some (.int .i64 a0_2) := (blk_cell BK259.out 2).trans rfl; have hfz66_0 := blk_frozen BK259.out 0; have hfz66_1 := blk_frozen BK259.out 1; have hfz66_2 := blk_frozen BK259.out 2) | (go_at_call 10; (with_reducible refine (trefoillaw12_Own.calls _ _ l0_0 a0_1 a0_2 t274 t277 t278 _ ?side1 ?side2 A56.out).mono ?_); (case side1 => exact Kd.C_below HR0_0.out (by repeat (first | (with_reducible first | exact HB.out | apply below_alloc | apply pw_below_drewN | apply below_drew1 | refine below_set ?_ GE259.out | refine below_set ?_ GE273.out) | exact HB.out))); (case side2 => exact HC0_0.out); rintro e w67 ⟨v275, rfl, ho0, hb⟩; have n0_ := Aside0.mk (Kd.R_elder' (by (with_reducible repeat (first | apply Kd.R_alloc | apply Kd.R_drewN | apply Kd.R_drew)); exact (Kd.R_mono (Kd.R_far (p := ⟨gb273, 2, none⟩) (Kd.R_far (p := ⟨gb273, 1, none⟩) (Kd.R_far (p := ⟨gb273, 0, none⟩) (Kd.R_types HO264.out BK273.out (by decide)) (fun _ hk => hk.2) (.slice Ao63 t267.length co63)) (fun _ hk => hk.2) (.int .i64 t270)) (fun _ hk => hk.2) (.int .i64 t271)) (fun _ h_ => h_.1))) (Kd.R_base ho0) hb); have n1_ := Aside0.mk (Kd.R_elder' (by (with_reducible repeat (first | apply Kd.R_alloc | apply Kd.R_drewN | apply Kd.R_drew)); exact (Kd.R_mono (Kd.R_far (p := ⟨gb273, 2, none⟩) (Kd.R_far (p := ⟨gb273, 1, none⟩) (Kd.R_far (p := ⟨gb273, 0, none⟩) (Kd.R_types HO269.out BK273.out (by decide)) (fun _ hk => hk.2) (.slice Ao63 t267.length co63)) (fun _ hk => hk.2) (.int .i64 t270)) (fun _ hk => hk.2) (.int .i64 t271)) (fun _ h_ => h_.1))) (Kd.R_base ho0) hb); have n2_ := Aside0.mk (Kd.R_lower (Kd.R_new' (Kd.R_new' ho0 (Kd.R_lt (by (with_reducible repeat (first | apply Kd.R_alloc | apply Kd.R_drewN | apply Kd.R_drew)); exact (Kd.R_mono (Kd.R_far (p := ⟨gb273, 2, none⟩) (Kd.R_far (p := ⟨gb273, 1, none⟩) (Kd.R_far (p := ⟨gb273, 0, none⟩) (Kd.R_types HO264.out BK273.out (by decide)) (fun _ hk => hk.2) (.slice Ao63 t267.length co63)) (fun _ hk => hk.2) (.int .i64 t270)) (fun _ hk => hk.2) (.int .i64 t271)) (fun _ h_ => h_.1))))) (Kd.R_lt (by (with_reducible repeat (first | apply Kd.R_alloc | apply Kd.R_drewN | apply Kd.R_drew)); exact (Kd.R_mono (Kd.R_far (p := ⟨gb273, 2, none⟩) (Kd.R_far (p := ⟨gb273, 1, none⟩) (Kd.R_far (p := ⟨gb273, 0, none⟩) (Kd.R_types HO269.out BK273.out (by decide)) (fun _ hk => hk.2) (.slice Ao63 t267.length co63)) (fun _ hk => hk.2) (.int .i64 t270)) (fun _ hk => hk.2) (.int .i64 t271)) (fun _ h_ => h_.1))))) (below_size (by repeat (first | (with_reducible first | exact HB.out | apply below_alloc | apply pw_below_drewN | apply below_drew1 | refine below_set ?_ GE259.out | refine below_set ?_ GE273.out) | exact HB.out)))); have n3_ := Aside0.mk (blk_below (g := gb259) (o := .cells #[.slice A0_0 l0_0.length c0_0, .int .i64 a0_1, .int .i64 a0_2] 24 (0, 0)) (by (with_reducible repeat (first | refine blk_drewN ?_ _ | refine blk_drew ?_ | refine blk_alloc ?_ _)); refine blk_far ?_ NB259_273.out _; (with_reducible repeat (first | refine blk_drewN ?_ _ | refine blk_drew ?_ | refine blk_alloc ?_ _)); refine blk_far ?_ NB259_273.out _; (with_reducible repeat (first | refine blk_drewN ?_ _ | refine blk_drew ?_ | refine blk_alloc ?_ _)); refine blk_far ?_ NB259_273.out _; (with_reducible repeat (first | refine blk_drewN ?_ _ | refine blk_drew ?_ | refine blk_alloc ?_ _)); exact BK259.out) hb); have n4_ := Aside0.mk (blk_below (g := gb273) (o := .cells #[.slice Ao63 t267.length co63, .int .i64 t270, .int .i64 t271] 24 (0, 0)) (by (with_reducible repeat (first | refine blk_drewN ?_ _ | refine blk_drew ?_ | refine blk_alloc ?_ _)); refine blk_put (cs := #[.slice Ao63 t267.length co63, .int .i64 t270, .int .i64 0]) ?_ 2 _ rfl; (with_reducible repeat (first | refine blk_drewN ?_ _ | refine blk_drew ?_ | refine blk_alloc ?_ _)); refine blk_put (cs := #[.slice Ao63 t267.length co63, .int .i64 0, .int .i64 0]) ?_ 1 _ rfl; (with_reducible repeat (first | refine blk_drewN ?_ _ | refine blk_drew ?_ | refine blk_alloc ?_ _)); refine blk_put (cs := #[.slice none 0 0, .int .i64 0, .int .i64 0]) ?_ 0 _ rfl; (with_reducible repeat (first | refine blk_drewN ?_ _ | refine blk_drew ?_ | refine blk_alloc ?_ _)); exact BK273.out) hb); have n5_ := Aside0.mk (below_step (by repeat (first | (with_reducible first | exact HB.out | apply below_alloc | apply pw_below_drewN | apply below_drew1 | refine below_set ?_ GE259.out | refine below_set ?_ GE273.out) | exact HB.out)) hb); clear HO264; clear HO269; clear BK259; clear BK273; clear HB; have HO264 := n0_; have HO269 := n1_; have HO276 := n2_; have BK259 := n3_; have BK273 := n4_; have HB := n5_; clear n0_ n1_ n2_ n3_ n4_ n5_; (try clear hb); (try clear hb2); (try clear hk); (try clear hi); (try clear ho0); obtain ⟨Ao68, co68, eo68⟩ := Kd.R_slice HO276.out; subst eo68) | (go_at_call 23; (with_reducible refine (deque_Check.calls _ _ t274 t277 t278 t279 _ ?side1 ?side2 A57.out).mono ?_); (case side1 => repeat (first | exact (Kd.R_reads' HO276.out).2.2 | (with_reducible refine Kd.C_alloc ?_ _) | (with_reducible refine Kd.C_drewN ?_ _) | (with_reducible refine Kd.C_drew ?_))); (case side2 => exact (Kd.R_reads' HO276.out).2.1); rintro e w69 ⟨rfl, hb⟩; have n0_ := Aside0.mk (Kd.R_below (by (with_reducible repeat (first | apply Kd.R_alloc | apply Kd.R_drewN | apply Kd.R_drew)); exact HO264.out) hb); have n1_ := Aside0.mk (Kd.R_below (by (with_reducible repeat (first | apply Kd.R_alloc | apply Kd.R_drewN | apply Kd.R_drew)); exact HO269.out) hb); have n2_ := Aside0.mk (Kd.R_below (by (with_reducible repeat (first | apply Kd.R_alloc | apply Kd.R_drewN | apply Kd.R_drew)); exact HO276.out) hb); have n3_ := Aside0.mk (blk_below (g := gb259) (o := .cells #[.slice A0_0 l0_0.length c0_0, .int .i64 a0_1, .int .i64 a0_2] 24 (0, 0)) (by (with_reducible repeat (first | refine blk_drewN ?_ _ | refine blk_drew ?_ | refine blk_alloc ?_ _)); exact BK259.out) hb); have n4_ := Aside0.mk (blk_below (g := gb273) (o := .cells #[.slice Ao63 t267.length co63, .int .i64 t270, .int .i64 t271] 24 (0, 0)) (by (with_reducible repeat (first | refine blk_drewN ?_ _ | refine blk_drew ?_ | refine blk_alloc ?_ _)); exact BK273.out) hb); have n5_ := Aside0.mk (below_step (by repeat (first | (with_reducible first | exact HB.out | apply below_alloc | apply pw_below_drewN | apply below_drew1 | refine below_set ?_ GE259.out | refine below_set ?_ GE273.out) | exact HB.out)) hb); clear HO264; clear HO269; clear HO276; clear BK259; clear BK273; clear HB; have HO264 := n0_; have HO269 := n1_; have HO276 := n2_; have BK259 := n3_; have BK273 := n4_; have HB := n5_; clear n0_ n1_ n2_ n3_ n4_ n5_; (try clear hb); (try clear hb2); (try clear hk); (try clear hi)))
            go_ret
            exact ⟨by first | rfl | (simp [errW_none, errW_some] <;> rfl) | (simp [*, errW_none, errW_some] <;> rfl), by repeat (first | (with_reducible first | exact HB.out | apply below_alloc | apply pw_below_drewN | apply below_drew1 | refine below_set ?_ GE259.out | refine below_set ?_ GE273.out) | exact HB.out)⟩
          · rw [if_neg c55] at H
            exact absurd H (by simp)

end Go.Proofs.YtdmgigicbppjkaaDoor.Q
