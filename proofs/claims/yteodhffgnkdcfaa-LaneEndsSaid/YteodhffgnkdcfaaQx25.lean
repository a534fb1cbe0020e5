import Derived.Test.YteodhffgnkdcfaaQx0
import Derived.Test.YteodhffgnkdcfaaQx1
import Derived.Test.YteodhffgnkdcfaaQx5
import Derived.Test.YteodhffgnkdcfaaQx16
import Derived.Test.YteodhffgnkdcfaaQx17
import Derived.Test.YteodhffgnkdcfaaQx18
import Derived.Test.YteodhffgnkdcfaaQx24
namespace Go.Proofs.Yteodhffgnkdcfaa.Q
open Go.RowKit Go.Proofs.YteodhffgnkdcfaaW.PrintWords Go.Proofs.YteodhffgnkdcfaaW.PrintLast Go.Proofs.YteodhffgnkdcfaaW.PrintMore
attribute [local go_sem] max2_int min2_int max_two min_two max_three min_three max_four min_four
set_option linter.unusedVariables false
set_option linter.unusedSimpArgs false
attribute [local go_sem high] eqA36
mutual
def trefoillaw18_LaneEnds.j0 : Nat → Bool → List (S27) → Int → Option (Bool)
  | 0, _, _, _ => none
  | k + 1, x29, x362000, x362001 => if x29 = true then ((trefoillaw18_awake.f k).bind fun t370 => (some t370)) else ((trefoillaw18_Own.f k x362000 x362001).bind fun bt371 => ((trefoillaw18_much.f k x362000 x362001).bind fun t376 => (trefoillaw18_LaneEnds.l0 k x362001 t376 bt371.1 bt371.2)))
def trefoillaw18_LaneEnds.l0 : Nat → Int → Int → List (S27) → Int → Option (Bool)
  | 0, _, _, _, _ => none
  | k + 1, x4, x5, x376000, x376001 => if x5 > 0 then ((trefoillaw18_Own.f k x376000 x376001).bind fun bt391 => ((lane_Tick.f k bt391.1 bt391.2).bind fun bt395 => (if bt395.2.2.2.2.2 = 0 then (if bt395.2.2.1 < 0 then (trefoillaw18_LaneEnds.j2 k x5 true x376000 x376001 bt395.1 bt395.2.1 bt395.2.2.1 bt395.2.2.2.1 bt395.2.2.2.2.1) else ((trefoillaw18_much.f k bt395.1 bt395.2.1).bind fun t405 => (if t405 = (wrap64 (x5 - 1)) then (if x4 ≥ 0 then (if bt395.2.2.1 = x4 then ((trefoillaw18_Own.f k bt395.1 bt395.2.1).bind fun bt406 => ((lane_Check.f k bt406.1 bt406.2).bind fun t410 => (trefoillaw18_LaneEnds.j2 k x5 (t410 != 0) x376000 x376001 bt395.1 bt395.2.1 bt395.2.2.1 bt395.2.2.2.1 bt395.2.2.2.2.1))) else (trefoillaw18_LaneEnds.j2 k x5 true x376000 x376001 bt395.1 bt395.2.1 bt395.2.2.1 bt395.2.2.2.1 bt395.2.2.2.2.1)) else ((trefoillaw18_Own.f k bt395.1 bt395.2.1).bind fun bt411 => ((lane_Check.f k bt411.1 bt411.2).bind fun t415 => (trefoillaw18_LaneEnds.j2 k x5 (t415 != 0) x376000 x376001 bt395.1 bt395.2.1 bt395.2.2.1 bt395.2.2.2.1 bt395.2.2.2.2.1)))) else (trefoillaw18_LaneEnds.j2 k x5 true x376000 x376001 bt395.1 bt395.2.1 bt395.2.2.1 bt395.2.2.2.1 bt395.2.2.2.2.1)))) else (trefoillaw18_LaneEnds.j2 k x5 true x376000 x376001 bt395.1 bt395.2.1 bt395.2.2.1 bt395.2.2.2.1 bt395.2.2.2.2.1)))) else ((trefoillaw18_Own.f k x376000 x376001).bind fun bt377 => ((lane_Tick.f k bt377.1 bt377.2).bind fun bt381 => (if bt381.2.2.2.2.2 = 0 then (if (bt381.2.2.1 == (-1) && (!bt381.2.2.2.1 && (!bt381.2.2.2.2.1))) = true then (if (bt381.1.length : Int) = 0 then (some ((x376000.length : Int) == 0)) else (none)) else (none)) else (none))))
def trefoillaw18_LaneEnds.j2 : Nat → Int → Bool → List (S27) → Int → List (S27) → Int → Int → Bool → Bool → Option (Bool)
  | 0, _, _, _, _, _, _, _, _, _ => none
  | k + 1, x5, x77, x376000, x376001, x404000, x404001, x405000, x405001, x405002 => if x77 = true then (some false) else (if x405001 = true then (if x404001 = (-1) then (if (x405002 != ((x404000.length : Int) == (wrap64 ((x376000.length : Int) - 1)))) = true then (some false) else (if x405002 = true then (trefoillaw18_LaneEnds.l0 k (-1) (wrap64 (x5 - 1)) x404000 x404001) else (trefoillaw18_LaneEnds.l0 k (-1) (wrap64 (x5 - 1)) x404000 x404001))) else (some false)) else (if x404001 = x405000 then (if (x405002 != ((x404000.length : Int) == (wrap64 ((x376000.length : Int) - 1)))) = true then (some false) else (if x405002 = true then (some false) else (trefoillaw18_LaneEnds.l0 k x405000 (wrap64 (x5 - 1)) x404000 x404001))) else (some false)))
end
def trefoillaw18_LaneEnds.f (k : Nat) (l0_0 : List (S27)) (a0_1 : Int) : Option (Bool) := (trefoillaw18_awake.f k).bind fun t362 => (if t362 = true then ((trefoilref18_Few.f k l0_0 a0_1).bind fun t363 => (if t363 = true then ((trefoillaw18_Own.f k l0_0 a0_1).bind fun bt364 => ((lane_Check.f k bt364.1 bt364.2).bind fun t368 => (if t368 = 0 then ((trefoillaw18_much.f k l0_0 a0_1).bind fun t369 => (trefoillaw18_LaneEnds.j0 k (decide (t369 > 2000)) l0_0 a0_1)) else (trefoillaw18_LaneEnds.j0 k true l0_0 a0_1)))) else (trefoillaw18_LaneEnds.j0 k true l0_0 a0_1))) else (trefoillaw18_LaneEnds.j0 k true l0_0 a0_1))
theorem trefoillaw18_LaneEnds.mono_l : ∀ k, (∀ y0 y1 y2, LeO (trefoillaw18_LaneEnds.j0 k y0 y1 y2) (trefoillaw18_LaneEnds.j0 (k + 1) y0 y1 y2)) ∧ (∀ y0 y1 y2 y3, LeO (trefoillaw18_LaneEnds.l0 k y0 y1 y2 y3) (trefoillaw18_LaneEnds.l0 (k + 1) y0 y1 y2 y3)) ∧ (∀ y0 y1 y2 y3 y4 y5 y6 y7 y8, LeO (trefoillaw18_LaneEnds.j2 k y0 y1 y2 y3 y4 y5 y6 y7 y8) (trefoillaw18_LaneEnds.j2 (k + 1) y0 y1 y2 y3 y4 y5 y6 y7 y8))
  | 0 => ⟨fun _ _ _ r h => by simp [trefoillaw18_LaneEnds.j0] at h, fun _ _ _ _ r h => by simp [trefoillaw18_LaneEnds.l0] at h, fun _ _ _ _ _ _ _ _ _ r h => by simp [trefoillaw18_LaneEnds.j2] at h⟩
  | k + 1 => by
    obtain ⟨ih0, ih1, ih2⟩ := trefoillaw18_LaneEnds.mono_l k
    refine ⟨?_, ?_, ?_⟩
    · intro y0 y1 y2
      unfold trefoillaw18_LaneEnds.j0
      repeat' first
      | (with_reducible exact ih0 _ _ _)
      | (with_reducible exact ih1 _ _ _ _)
      | (with_reducible exact ih2 _ _ _ _ _ _ _ _ _)
      | (with_reducible exact lane_Check.mono _ _ _)
      | (with_reducible exact lane_Tick.mono _ _ _)
      | (with_reducible exact trefoillaw18_Own.mono _ _ _)
      | (with_reducible exact trefoillaw18_awake.mono _)
      | (with_reducible exact trefoillaw18_much.mono _ _ _)
      | (with_reducible exact trefoilref18_Few.mono _ _ _)
      | (with_reducible exact LeO.refl _)
      | (with_reducible exact LeO.none _)
      | (with_reducible refine LeO.ite ?_ ?_)
      | (with_reducible refine LeO.bind ?_ (fun _ => ?_))
      | exact ih0 _ _ _
      | exact ih1 _ _ _ _
      | exact ih2 _ _ _ _ _ _ _ _ _
      | exact lane_Check.mono _ _ _
      | exact lane_Tick.mono _ _ _
      | exact trefoillaw18_Own.mono _ _ _
      | exact trefoillaw18_awake.mono _
      | exact trefoillaw18_much.mono _ _ _
      | exact trefoilref18_Few.mono _ _ _
      | exact LeO.none _
      | refine LeO.ite ?_ ?_
      | refine LeO.bind ?_ (fun _ => ?_)
    · intro y0 y1 y2 y3
      unfold trefoillaw18_LaneEnds.l0
      repeat' first
      | (with_reducible exact ih0 _ _ _)
      | (with_reducible exact ih1 _ _ _ _)
      | (with_reducible exact ih2 _ _ _ _ _ _ _ _ _)
      | (with_reducible exact lane_Check.mono _ _ _)
      | (with_reducible exact lane_Tick.mono _ _ _)
      | (with_reducible exact trefoillaw18_Own.mono _ _ _)
      | (with_reducible exact trefoillaw18_awake.mono _)
      | (with_reducible exact trefoillaw18_much.mono _ _ _)
      | (with_reducible exact trefoilref18_Few.mono _ _ _)
      | (with_reducible exact LeO.refl _)
      | (with_reducible exact LeO.none _)
      | (with_reducible refine LeO.ite ?_ ?_)
      | (with_reducible refine LeO.bind ?_ (fun _ => ?_))
      | exact ih0 _ _ _
      | exact ih1 _ _ _ _
      | exact ih2 _ _ _ _ _ _ _ _ _
      | exact lane_Check.mono _ _ _
      | exact lane_Tick.mono _ _ _
      | exact trefoillaw18_Own.mono _ _ _
      | exact trefoillaw18_awake.mono _
      | exact trefoillaw18_much.mono _ _ _
      | exact trefoilref18_Few.mono _ _ _
      | exact LeO.none _
      | refine LeO.ite ?_ ?_
      | refine LeO.bind ?_ (fun _ => ?_)
    · intro y0 y1 y2 y3 y4 y5 y6 y7 y8
      unfold trefoillaw18_LaneEnds.j2
      repeat' first
      | (with_reducible exact ih0 _ _ _)
      | (with_reducible exact ih1 _ _ _ _)
      | (with_reducible exact ih2 _ _ _ _ _ _ _ _ _)
      | (with_reducible exact lane_Check.mono _ _ _)
      | (with_reducible exact lane_Tick.mono _ _ _)
      | (with_reducible exact trefoillaw18_Own.mono _ _ _)
      | (with_reducible exact trefoillaw18_awake.mono _)
      | (with_reducible exact trefoillaw18_much.mono _ _ _)
      | (with_reducible exact trefoilref18_Few.mono _ _ _)
      | (with_reducible exact LeO.refl _)
      | (with_reducible exact LeO.none _)
      | (with_reducible refine LeO.ite ?_ ?_)
      | (with_reducible refine LeO.bind ?_ (fun _ => ?_))
      | exact ih0 _ _ _
      | exact ih1 _ _ _ _
      | exact ih2 _ _ _ _ _ _ _ _ _
      | exact lane_Check.mono _ _ _
      | exact lane_Tick.mono _ _ _
      | exact trefoillaw18_Own.mono _ _ _
      | exact trefoillaw18_awake.mono _
      | exact trefoillaw18_much.mono _ _ _
      | exact trefoilref18_Few.mono _ _ _
      | exact LeO.none _
      | refine LeO.ite ?_ ?_
      | refine LeO.bind ?_ (fun _ => ?_)
theorem trefoillaw18_LaneEnds.mono : ∀ a0 a1 k, LeO (trefoillaw18_LaneEnds.f k a0 a1) (trefoillaw18_LaneEnds.f (k + 1) a0 a1) := by
  intro a0 a1 k
  obtain ⟨ih0, ih1, ih2⟩ := trefoillaw18_LaneEnds.mono_l k
  unfold trefoillaw18_LaneEnds.f
  repeat' first
      | (with_reducible exact ih0 _ _ _)
      | (with_reducible exact ih1 _ _ _ _)
      | (with_reducible exact ih2 _ _ _ _ _ _ _ _ _)
      | (with_reducible exact lane_Check.mono _ _ _)
      | (with_reducible exact lane_Tick.mono _ _ _)
      | (with_reducible exact trefoillaw18_Own.mono _ _ _)
      | (with_reducible exact trefoillaw18_awake.mono _)
      | (with_reducible exact trefoillaw18_much.mono _ _ _)
      | (with_reducible exact trefoilref18_Few.mono _ _ _)
      | (with_reducible exact LeO.refl _)
      | (with_reducible exact LeO.none _)
      | (with_reducible refine LeO.ite ?_ ?_)
      | (with_reducible refine LeO.bind ?_ (fun _ => ?_))
      | exact ih0 _ _ _
      | exact ih1 _ _ _ _
      | exact ih2 _ _ _ _ _ _ _ _ _
      | exact lane_Check.mono _ _ _
      | exact lane_Tick.mono _ _ _
      | exact trefoillaw18_Own.mono _ _ _
      | exact trefoillaw18_awake.mono _
      | exact trefoillaw18_much.mono _ _ _
      | exact trefoilref18_Few.mono _ _ _
      | exact LeO.none _
      | refine LeO.ite ?_ ?_
      | refine LeO.bind ?_ (fun _ => ?_)
set_option maxHeartbeats 8000000 in
set_option maxRecDepth 100000 in
theorem trefoillaw18_LaneEnds.calls (k : Nat) (A0_0 : Option Addr) (c0_0 : Nat) (l0_0 : List (S27)) (a0_1 : Int) (r : Bool) (w : World) (hr0_0 : Kd.C k27 w A0_0 l0_0.length l0_0) (hc0_0 : l0_0.length ≤ c0_0) (h : trefoillaw18_LaneEnds.f k l0_0 a0_1 = some r) :
    Calls Try.prog 4 #[.agg #[.slice A0_0 l0_0.length c0_0, .int .i64 a0_1]] w fun e w' => e = .returned (.bool r) ∧ Below w.heap.size w w' := by
  have hu24 := Try.underlying24
  have hu36 := Try.underlying36
  have HR0_0 := Aside0.mk hr0_0
  have HC0_0 := Aside0.mk hc0_0
  clear hr0_0 hc0_0
  have HB := Aside0.mk (Below.refl w.heap.size w)
  have H : ((trefoillaw18_awake.f k).bind fun t362 => (if t362 = true then ((trefoilref18_Few.f k l0_0 a0_1).bind fun t363 => (if t363 = true then ((trefoillaw18_Own.f k l0_0 a0_1).bind fun bt364 => ((lane_Check.f k bt364.1 bt364.2).bind fun t368 => (if t368 = 0 then ((trefoillaw18_much.f k l0_0 a0_1).bind fun t369 => (trefoillaw18_LaneEnds.j0 k (decide (t369 > 2000)) l0_0 a0_1)) else (trefoillaw18_LaneEnds.j0 k true l0_0 a0_1)))) else (trefoillaw18_LaneEnds.j0 k true l0_0 a0_1))) else (trefoillaw18_LaneEnds.j0 k true l0_0 a0_1))) = some r := h
  clear h
  have HC2 := Aside0.mk H
  clear H
  go_enter Try.func4, Try.ntmps4
  go_upto_region 1 with (first | ((with_reducible refine gate_dst (N := 1) rfl ?_); (try (refine gate_guard (by rfl) ?_; dsimp only)); refine box_event ?hg (N := 1) ?hd (cs := #[.slice A0_0 l0_0.length c0_0, .int .i64 a0_1]) (t := 24) ?hr ?_; (case hd => rfl); (case hg => rfl); (case hr => first | (go_simp; done) | (go_simp; rfl)); intro gb361 hg w3 hbox hb; have n0_ := Aside0.mk (below_step (by repeat (first | (with_reducible first | exact HB.out | apply below_alloc | apply pw_below_drewN | apply below_drew1) | exact HB.out)) hb); have n1_ := Aside0.mk (hbox); have n2_ := Aside0.mk ((by rw [hg]; exact (below_size (by repeat (first | (with_reducible first | exact HB.out | apply below_alloc | apply pw_below_drewN | apply below_drew1) | exact HB.out))) : w.heap.size ≤ gb361)); have n3_ := Aside0.mk ((by rw [hg]; exact (below_size (by repeat (first | (with_reducible first | exact HB.out | apply below_alloc | apply pw_below_drewN | apply below_drew1) | exact HB.out))) : w.heap.size ≤ gb361)); clear HB; have HB := n0_; have BK361 := n1_; have GW361 := n2_; have GE361 := n3_; clear n0_ n1_ n2_ n3_; clear hb hbox hg))
  (try simp only [Act.put, List.setIfInBounds_toArray, List.set_cons_zero, List.set_cons_succ])
  go_cut [29] (fun v29 wc => ∃ (kq : Nat) (x29_1 : Bool), v29 = .bool x29_1 ∧ Aside0 (trefoillaw18_LaneEnds.j0 kq x29_1 l0_0 a0_1 = some r) ∧ Aside0 (kq ≤ k) ∧ Aside0 (wc.heap[gb361]? = some (.cells #[(.slice A0_0 l0_0.length c0_0), .int .i64 a0_1] 24 (0, 0))) ∧ Aside0 (Below w.heap.size w wc))
  case first =>
    have H := HC2.out
    clear HC2
    replace H := Option.bind_eq_some_iff.mp H
    obtain ⟨t362, A40, H⟩ := H
    replace H : (if t362 = true then ((trefoilref18_Few.f k l0_0 a0_1).bind fun t363 => (if t363 = true then ((trefoillaw18_Own.f k l0_0 a0_1).bind fun bt364 => ((lane_Check.f k bt364.1 bt364.2).bind fun t368 => (if t368 = 0 then ((trefoillaw18_much.f k l0_0 a0_1).bind fun t369 => (trefoillaw18_LaneEnds.j0 k (decide (t369 > 2000)) l0_0 a0_1)) else (trefoillaw18_LaneEnds.j0 k true l0_0 a0_1)))) else (trefoillaw18_LaneEnds.j0 k true l0_0 a0_1))) else (trefoillaw18_LaneEnds.j0 k true l0_0 a0_1)) = some r := H
    have A4 := Aside0.mk A40
    clear A40
    by_cases c5 : t362 = true
    · subst c5
      have H1 : ((trefoilref18_Few.f k l0_0 a0_1).bind fun t363 => (if t363 = true then ((trefoillaw18_Own.f k l0_0 a0_1).bind fun bt364 => ((lane_Check.f k bt364.1 bt364.2).bind fun t368 => (if t368 = 0 then ((trefoillaw18_much.f k l0_0 a0_1).bind fun t369 => (trefoillaw18_LaneEnds.j0 k (decide (t369 > 2000)) l0_0 a0_1)) else (trefoillaw18_LaneEnds.j0 k true l0_0 a0_1)))) else (trefoillaw18_LaneEnds.j0 k true l0_0 a0_1))) = some r := by rw [if_pos rfl] at H; exact H
      clear H
      have H := H1
      clear H1
      replace H := Option.bind_eq_some_iff.mp H
      obtain ⟨t363, A60, H⟩ := H
      replace H : (if t363 = true then ((trefoillaw18_Own.f k l0_0 a0_1).bind fun bt364 => ((lane_Check.f k bt364.1 bt364.2).bind fun t368 => (if t368 = 0 then ((trefoillaw18_much.f k l0_0 a0_1).bind fun t369 => (trefoillaw18_LaneEnds.j0 k (decide (t369 > 2000)) l0_0 a0_1)) else (trefoillaw18_LaneEnds.j0 k true l0_0 a0_1)))) else (trefoillaw18_LaneEnds.j0 k true l0_0 a0_1)) = some r := H
      have A6 := Aside0.mk A60
      clear A60
      by_cases c7 : t363 = true
      · subst c7
        have H1 : ((trefoillaw18_Own.f k l0_0 a0_1).bind fun bt364 => ((lane_Check.f k bt364.1 bt364.2).bind fun t368 => (if t368 = 0 then ((trefoillaw18_much.f k l0_0 a0_1).bind fun t369 => (trefoillaw18_LaneEnds.j0 k (decide (t369 > 2000)) l0_0 a0_1)) else (trefoillaw18_LaneEnds.j0 k true l0_0 a0_1)))) = some r := by rw [if_pos rfl] at H; exact H
        clear H
        have H := H1
        clear H1
        replace H := Option.bind_eq_some_iff.mp H
        obtain ⟨⟨t364, t367⟩, A80, H⟩ := H
        replace H : ((lane_Check.f k t364 t367).bind fun t368 => (if t368 = 0 then ((trefoillaw18_much.f k l0_0 a0_1).bind fun t369 => (trefoillaw18_LaneEnds.j0 k (decide (t369 > 2000)) l0_0 a0_1)) else (trefoillaw18_LaneEnds.j0 k true l0_0 a0_1))) = some r := H
        have A8 := Aside0.mk A80
        clear A80
        replace H := Option.bind_eq_some_iff.mp H
        obtain ⟨t368, A90, H⟩ := H
        replace H : (if t368 = 0 then ((trefoillaw18_much.f k l0_0 a0_1).bind fun t369 => (trefoillaw18_LaneEnds.j0 k (decide (t369 > 2000)) l0_0 a0_1)) else (trefoillaw18_LaneEnds.j0 k true l0_0 a0_1)) = some r := H
        have A9 := Aside0.mk A90
        clear A90
        by_cases c10 : t368 = 0
        · rw [if_pos c10] at H
          have c10b0 : (t368 == 0) = true := beq_iff_eq.mpr c10
          have c10b1 : (t368 != 0) = false := bne_eq_false_iff_eq.mpr c10
          clear c10
          (first | rw [c10b0] | (simp only [i64_w, i32_w]; rw [c10b0]) | skip)
          replace H := Option.bind_eq_some_iff.mp H
          obtain ⟨t369, A110, H⟩ := H
          replace H : (trefoillaw18_LaneEnds.j0 k (decide (t369 > 2000)) l0_0 a0_1) = some r := H
          have A11 := Aside0.mk A110
          clear A110
          have H' := Aside0.mk H
          clear H
          go_wp2_with (first | ((with_reducible refine gate_callee (f := 8) rfl ?_); refine goesL_ (some 12) rfl rfl Try.func8 (by kernel_rfl) rfl #[] rfl (by (try simp only [List.map_toArray, List.map_cons, List.map_nil]); first | done | rfl | (simp only [List.length_drop, List.length_take]; rfl)) ?_; (with_reducible refine (trefoillaw18_awake.calls k  true _ A4.out).mono ?_); rintro e w12 ⟨rfl, hb⟩; refine ⟨_, rfl, ?_⟩; have n0_ := Aside0.mk (blk_below (g := gb361) (o := .cells #[.slice A0_0 l0_0.length c0_0, .int .i64 a0_1] 24 (0, 0)) (by (with_reducible repeat (first | refine blk_drewN ?_ _ | refine blk_drew ?_ | refine blk_alloc ?_ _)); exact BK361.out) hb); have n1_ := Aside0.mk (below_step (by repeat (first | (with_reducible first | exact HB.out | apply below_alloc | apply pw_below_drewN | apply below_drew1 | refine below_set ?_ GE361.out) | exact HB.out)) hb); clear BK361; clear HB; have BK361 := n0_; have HB := n1_; clear n0_ n1_; (try clear hb); (try clear hb2); (try clear hk); (try clear hi); have hcz13_0 : w12.cell? ⟨gb361, 0, none⟩ = some (.slice A0_0 l0_0.length c0_0) := (blk_cell BK361.out 0).trans rfl; have hcz13_1 : w12.cell? ⟨gb361, 1, none⟩ = some (.int .i64 a0_1) := (blk_cell BK361.out 1).trans rfl; have hfz13_0 := blk_frozen BK361.out 0; have hfz13_1 := blk_frozen BK361.out 1) | (go_at_call 9; (with_reducible refine (trefoilref18_Few.calls k _ _ l0_0 a0_1 true _ ?side1 ?side2 A6.out).mono ?_); (case side1 => repeat (first | exact (Kd.C_below HR0_0.out HB.out) | (with_reducible refine Kd.C_alloc ?_ _) | (with_reducible refine Kd.C_drewN ?_ _) | (with_reducible refine Kd.C_drew ?_))); (case side2 => exact HC0_0.out); rintro e w14 ⟨rfl, hb⟩; have n0_ := Aside0.mk (blk_below (g := gb361) (o := .cells #[.slice A0_0 l0_0.length c0_0, .int .i64 a0_1] 24 (0, 0)) (by (with_reducible repeat (first | refine blk_drewN ?_ _ | refine blk_drew ?_ | refine blk_alloc ?_ _)); exact BK361.out) hb); have n1_ := Aside0.mk (below_step (by repeat (first | (with_reducible first | exact HB.out | apply below_alloc | apply pw_below_drewN | apply below_drew1 | refine below_set ?_ GE361.out) | exact HB.out)) hb); clear BK361; clear HB; have BK361 := n0_; have HB := n1_; clear n0_ n1_; (try clear hb); (try clear hb2); (try clear hk); (try clear hi); have hcz15_0 : w14.cell? ⟨gb361, 0, none⟩ = some (.slice A0_0 l0_0.length c0_0) := (blk_cell BK361.out 0).trans rfl; have hcz15_1 : w14.cell? ⟨gb361, 1, none⟩ = some (.int .i64 a0_1) := (blk_cell BK361.out 1).trans rfl; have hfz15_0 := blk_frozen BK361.out 0; have hfz15_1 := blk_frozen BK361.out 1) | (go_at_call 11; (with_reducible refine (trefoillaw18_Own.calls k _ _ l0_0 a0_1 t364 t367 _ ?side1 ?side2 A8.out).mono ?_); (case side1 => repeat (first | exact (Kd.C_below HR0_0.out HB.out) | (with_reducible refine Kd.C_alloc ?_ _) | (with_reducible refine Kd.C_drewN ?_ _) | (with_reducible refine Kd.C_drew ?_))); (case side2 => exact HC0_0.out); rintro e w16 ⟨v365, rfl, ho0, hb⟩; have n0_ := Aside0.mk (Kd.S_lower ho0 (below_size (by repeat (first | (with_reducible first | exact HB.out | apply below_alloc | apply pw_below_drewN | apply below_drew1 | refine below_set ?_ GE361.out) | exact HB.out)))); have n1_ := Aside0.mk (blk_below (g := gb361) (o := .cells #[.slice A0_0 l0_0.length c0_0, .int .i64 a0_1] 24 (0, 0)) (by (with_reducible repeat (first | refine blk_drewN ?_ _ | refine blk_drew ?_ | refine blk_alloc ?_ _)); exact BK361.out) hb); have n2_ := Aside0.mk (below_step (by repeat (first | (with_reducible first | exact HB.out | apply below_alloc | apply pw_below_drewN | apply below_drew1 | refine below_set ?_ GE361.out) | exact HB.out)) hb); clear BK361; clear HB; have HO366 := n0_; have BK361 := n1_; have HB := n2_; clear n0_ n1_ n2_; (try clear hb); (try clear hb2); (try clear hk); (try clear hi); (try clear ho0); obtain ⟨Ao17, co17, eo17⟩ := Kd.S_slice HO366.out; subst eo17) | (go_at_call 21; (with_reducible refine (lane_Check.calls k _ _ t364 t367 t368 _ ?side1 ?side2 A9.out).mono ?_); (case side1 => repeat (first | exact (Kd.S_reads' HO366.out).2.2 | (with_reducible refine Kd.C_alloc ?_ _) | (with_reducible refine Kd.C_drewN ?_ _) | (with_reducible refine Kd.C_drew ?_))); (case side2 => exact (Kd.S_reads' HO366.out).2.1); rintro e w18 ⟨rfl, hb⟩; have n0_ := Aside0.mk (Kd.S_below (by (with_reducible repeat (first | apply Kd.S_alloc | apply Kd.S_drewN | apply Kd.S_drew)); exact HO366.out) hb); have n1_ := Aside0.mk (blk_below (g := gb361) (o := .cells #[.slice A0_0 l0_0.length c0_0, .int .i64 a0_1] 24 (0, 0)) (by (with_reducible repeat (first | refine blk_drewN ?_ _ | refine blk_drew ?_ | refine blk_alloc ?_ _)); exact BK361.out) hb); have n2_ := Aside0.mk (below_step (by repeat (first | (with_reducible first | exact HB.out | apply below_alloc | apply pw_below_drewN | apply below_drew1 | refine below_set ?_ GE361.out) | exact HB.out)) hb); clear HO366; clear BK361; clear HB; have HO366 := n0_; have BK361 := n1_; have HB := n2_; clear n0_ n1_ n2_; (try clear hb); (try clear hb2); (try clear hk); (try clear hi); have hcz19_0 : w18.cell? ⟨gb361, 0, none⟩ = some (.slice A0_0 l0_0.length c0_0) := (blk_cell BK361.out 0).trans rfl; have hcz19_1 : w18.cell? ⟨gb361, 1, none⟩ = some (.int .i64 a0_1) := (blk_cell BK361.out 1).trans rfl; have hfz19_0 := blk_frozen BK361.out 0; have hfz19_1 := blk_frozen BK361.out 1) | (go_at_call 23; (with_reducible refine (trefoillaw18_much.calls k _ _ l0_0 a0_1 t369 _ ?side1 ?side2 A11.out).mono ?_); (case side1 => repeat (first | exact (Kd.C_below HR0_0.out HB.out) | (with_reducible refine Kd.C_alloc ?_ _) | (with_reducible refine Kd.C_drewN ?_ _) | (with_reducible refine Kd.C_drew ?_))); (case side2 => exact HC0_0.out); rintro e w20 ⟨rfl, hb⟩; have n0_ := Aside0.mk (Kd.S_below (by (with_reducible repeat (first | apply Kd.S_alloc | apply Kd.S_drewN | apply Kd.S_drew)); exact HO366.out) hb); have n1_ := Aside0.mk (blk_below (g := gb361) (o := .cells #[.slice A0_0 l0_0.length c0_0, .int .i64 a0_1] 24 (0, 0)) (by (with_reducible repeat (first | refine blk_drewN ?_ _ | refine blk_drew ?_ | refine blk_alloc ?_ _)); exact BK361.out) hb); have n2_ := Aside0.mk (below_step (by repeat (first | (with_reducible first | exact HB.out | apply below_alloc | apply pw_below_drewN | apply below_drew1 | refine below_set ?_ GE361.out) | exact HB.out)) hb); clear HO366; clear BK361; clear HB; have HO366 := n0_; have BK361 := n1_; have HB := n2_; clear n0_ n1_ n2_; (try clear hb); (try clear hb2); (try clear hk); (try clear hi)))
          go_meet
          case rel => exact ⟨_, (decide (t369 > 2000)), (by first | rfl | (simp; done) | (simp [*]; done)), H', ⟨by first | omega | exact Nat.le_refl _⟩, ⟨by (with_reducible repeat (first | refine blk_drewN ?_ _ | refine blk_drew ?_ | refine blk_alloc ?_ _)); exact BK361.out⟩, ⟨by repeat (first | (with_reducible first | exact HB.out | apply below_alloc | apply pw_below_drewN | apply below_drew1 | refine below_set ?_ GE361.out) | exact HB.out)⟩⟩
        · rw [if_neg c10] at H
          have c10b0 : (t368 == 0) = false := beq_eq_false_iff_ne.mpr c10
          have c10b1 : (t368 != 0) = true := bne_iff_ne.mpr c10
          (first | rw [c10b0] | (simp only [i64_w, i32_w]; rw [c10b0]) | skip)
          have H' := Aside0.mk H
          clear H
          go_wp2_with (first | ((with_reducible refine gate_callee (f := 8) rfl ?_); refine goesL_ (some 12) rfl rfl Try.func8 (by kernel_rfl) rfl #[] rfl (by (try simp only [List.map_toArray, List.map_cons, List.map_nil]); first | done | rfl | (simp only [List.length_drop, List.length_take]; rfl)) ?_; (with_reducible refine (trefoillaw18_awake.calls k  true _ A4.out).mono ?_); rintro e w21 ⟨rfl, hb⟩; refine ⟨_, rfl, ?_⟩; have n0_ := Aside0.mk (blk_below (g := gb361) (o := .cells #[.slice A0_0 l0_0.length c0_0, .int .i64 a0_1] 24 (0, 0)) (by (with_reducible repeat (first | refine blk_drewN ?_ _ | refine blk_drew ?_ | refine blk_alloc ?_ _)); exact BK361.out) hb); have n1_ := Aside0.mk (below_step (by repeat (first | (with_reducible first | exact HB.out | apply below_alloc | apply pw_below_drewN | apply below_drew1 | refine below_set ?_ GE361.out) | exact HB.out)) hb); clear BK361; clear HB; have BK361 := n0_; have HB := n1_; clear n0_ n1_; (try clear hb); (try clear hb2); (try clear hk); (try clear hi); have hcz22_0 : w21.cell? ⟨gb361, 0, none⟩ = some (.slice A0_0 l0_0.length c0_0) := (blk_cell BK361.out 0).trans rfl; have hcz22_1 : w21.cell? ⟨gb361, 1, none⟩ = some (.int .i64 a0_1) := (blk_cell BK361.out 1).trans rfl; have hfz22_0 := blk_frozen BK361.out 0; have hfz22_1 := blk_frozen BK361.out 1) | (go_at_call 9; (with_reducible refine (trefoilref18_Few.calls k _ _ l0_0 a0_1 true _ ?side1 ?side2 A6.out).mono ?_); (case side1 => repeat (first | exact (Kd.C_below HR0_0.out HB.out) | (with_reducible refine Kd.C_alloc ?_ _) | (with_reducible refine Kd.C_drewN ?_ _) | (with_reducible refine Kd.C_drew ?_))); (case side2 => exact HC0_0.out); rintro e w23 ⟨rfl, hb⟩; have n0_ := Aside0.mk (blk_below (g := gb361) (o := .cells #[.slice A0_0 l0_0.length c0_0, .int .i64 a0_1] 24 (0, 0)) (by (with_reducible repeat (first | refine blk_drewN ?_ _ | refine blk_drew ?_ | refine blk_alloc ?_ _)); exact BK361.out) hb); have n1_ := Aside0.mk (below_step (by repeat (first | (with_reducible first | exact HB.out | apply below_alloc | apply pw_below_drewN | apply below_drew1 | refine below_set ?_ GE361.out) | exact HB.out)) hb); clear BK361; clear HB; have BK361 := n0_; have HB := n1_; clear n0_ n1_; (try clear hb); (try clear hb2); (try clear hk); (try clear hi); have hcz24_0 : w23.cell? ⟨gb361, 0, none⟩ = some (.slice A0_0 l0_0.length c0_0) := (blk_cell BK361.out 0).trans rfl; have hcz24_1 : w23.cell? ⟨gb361, 1, none⟩ = some (.int .i64 a0_1) := (blk_cell BK361.out 1).trans rfl; have hfz24_0 := blk_frozen BK361.out 0; have hfz24_1 := blk_frozen BK361.out 1) | (go_at_call 11; (with_reducible refine (trefoillaw18_Own.calls k _ _ l0_0 a0_1 t364 t367 _ ?side1 ?side2 A8.out).mono ?_); (case side1 => repeat (first | exact (Kd.C_below HR0_0.out HB.out) | (with_reducible refine Kd.C_alloc ?_ _) | (with_reducible refine Kd.C_drewN ?_ _) | (with_reducible refine Kd.C_drew ?_))); (case side2 => exact HC0_0.out); rintro e w25 ⟨v365, rfl, ho0, hb⟩; have n0_ := Aside0.mk (Kd.S_lower ho0 (below_size (by repeat (first | (with_reducible first | exact HB.out | apply below_alloc | apply pw_below_drewN | apply below_drew1 | refine below_set ?_ GE361.out) | exact HB.out)))); have n1_ := Aside0.mk (blk_below (g := gb361) (o := .cells #[.slice A0_0 l0_0.length c0_0, .int .i64 a0_1] 24 (0, 0)) (by (with_reducible repeat (first | refine blk_drewN ?_ _ | refine blk_drew ?_ | refine blk_alloc ?_ _)); exact BK361.out) hb); have n2_ := Aside0.mk (below_step (by repeat (first | (with_reducible first | exact HB.out | apply below_alloc | apply pw_below_drewN | apply below_drew1 | refine below_set ?_ GE361.out) | exact HB.out)) hb); clear BK361; clear HB; have HO366 := n0_; have BK361 := n1_; have HB := n2_; clear n0_ n1_ n2_; (try clear hb); (try clear hb2); (try clear hk); (try clear hi); (try clear ho0); obtain ⟨Ao26, co26, eo26⟩ := Kd.S_slice HO366.out; subst eo26) | (go_at_call 21; (with_reducible refine (lane_Check.calls k _ _ t364 t367 t368 _ ?side1 ?side2 A9.out).mono ?_); (case side1 => repeat (first | exact (Kd.S_reads' HO366.out).2.2 | (with_reducible refine Kd.C_alloc ?_ _) | (with_reducible refine Kd.C_drewN ?_ _) | (with_reducible refine Kd.C_drew ?_))); (case side2 => exact (Kd.S_reads' HO366.out).2.1); rintro e w27 ⟨rfl, hb⟩; have n0_ := Aside0.mk (Kd.S_below (by (with_reducible repeat (first | apply Kd.S_alloc | apply Kd.S_drewN | apply Kd.S_drew)); exact HO366.out) hb); have n1_ := Aside0.mk (blk_below (g := gb361) (o := .cells #[.slice A0_0 l0_0.length c0_0, .int .i64 a0_1] 24 (0, 0)) (by (with_reducible repeat (first | refine blk_drewN ?_ _ | refine blk_drew ?_ | refine blk_alloc ?_ _)); exact BK361.out) hb); have n2_ := Aside0.mk (below_step (by repeat (first | (with_reducible first | exact HB.out | apply below_alloc | apply pw_below_drewN | apply below_drew1 | refine below_set ?_ GE361.out) | exact HB.out)) hb); clear HO366; clear BK361; clear HB; have HO366 := n0_; have BK361 := n1_; have HB := n2_; clear n0_ n1_ n2_; (try clear hb); (try clear hb2); (try clear hk); (try clear hi)))
          go_meet
          case rel => exact ⟨_, (true), (by first | rfl | (simp; done) | (simp [*]; done)), H', ⟨by first | omega | exact Nat.le_refl _⟩, ⟨by (with_reducible repeat (first | refine blk_drewN ?_ _ | refine blk_drew ?_ | refine blk_alloc ?_ _)); exact BK361.out⟩, ⟨by repeat (first | (with_reducible first | exact HB.out | apply below_alloc | apply pw_below_drewN | apply below_drew1 | refine below_set ?_ GE361.out) | exact HB.out)⟩⟩
      · replace c7 := Bool.eq_false_iff.mpr c7
        subst c7
        have H1 : (trefoillaw18_LaneEnds.j0 k true l0_0 a0_1) = some r := by rw [if_neg (show ¬ (false = true) by decide)] at H; exact H
        clear H
        have H := H1
        clear H1
        have H' := Aside0.mk H
        clear H
        go_wp2_with (first | ((with_reducible refine gate_callee (f := 8) rfl ?_); refine goesL_ (some 12) rfl rfl Try.func8 (by kernel_rfl) rfl #[] rfl (by (try simp only [List.map_toArray, List.map_cons, List.map_nil]); first | done | rfl | (simp only [List.length_drop, List.length_take]; rfl)) ?_; (with_reducible refine (trefoillaw18_awake.calls k  true _ A4.out).mono ?_); rintro e w28 ⟨rfl, hb⟩; refine ⟨_, rfl, ?_⟩; have n0_ := Aside0.mk (blk_below (g := gb361) (o := .cells #[.slice A0_0 l0_0.length c0_0, .int .i64 a0_1] 24 (0, 0)) (by (with_reducible repeat (first | refine blk_drewN ?_ _ | refine blk_drew ?_ | refine blk_alloc ?_ _)); exact BK361.out) hb); have n1_ := Aside0.mk (below_step (by repeat (first | (with_reducible first | exact HB.out | apply below_alloc | apply pw_below_drewN | apply below_drew1 | refine below_set ?_ GE361.out) | exact HB.out)) hb); clear BK361; clear HB; have BK361 := n0_; have HB := n1_; clear n0_ n1_; (try clear hb); (try clear hb2); (try clear hk); (try clear hi); have hcz29_0 : w28.cell? ⟨gb361, 0, none⟩ = some (.slice A0_0 l0_0.length c0_0) := (blk_cell BK361.out 0).trans rfl; have hcz29_1 : w28.cell? ⟨gb361, 1, none⟩ = some (.int .i64 a0_1) := (blk_cell BK361.out 1).trans rfl; have hfz29_0 := blk_frozen BK361.out 0; have hfz29_1 := blk_frozen BK361.out 1) | (go_at_call 9; (with_reducible refine (trefoilref18_Few.calls k _ _ l0_0 a0_1 false _ ?side1 ?side2 A6.out).mono ?_); (case side1 => repeat (first | exact (Kd.C_below HR0_0.out HB.out) | (with_reducible refine Kd.C_alloc ?_ _) | (with_reducible refine Kd.C_drewN ?_ _) | (with_reducible refine Kd.C_drew ?_))); (case side2 => exact HC0_0.out); rintro e w30 ⟨rfl, hb⟩; have n0_ := Aside0.mk (blk_below (g := gb361) (o := .cells #[.slice A0_0 l0_0.length c0_0, .int .i64 a0_1] 24 (0, 0)) (by (with_reducible repeat (first | refine blk_drewN ?_ _ | refine blk_drew ?_ | refine blk_alloc ?_ _)); exact BK361.out) hb); have n1_ := Aside0.mk (below_step (by repeat (first | (with_reducible first | exact HB.out | apply below_alloc | apply pw_below_drewN | apply below_drew1 | refine below_set ?_ GE361.out) | exact HB.out)) hb); clear BK361; clear HB; have BK361 := n0_; have HB := n1_; clear n0_ n1_; (try clear hb); (try clear hb2); (try clear hk); (try clear hi)))
        go_meet
        case rel => exact ⟨_, (true), (by first | rfl | (simp; done) | (simp [*]; done)), H', ⟨by first | omega | exact Nat.le_refl _⟩, ⟨by (with_reducible repeat (first | refine blk_drewN ?_ _ | refine blk_drew ?_ | refine blk_alloc ?_ _)); exact BK361.out⟩, ⟨by repeat (first | (with_reducible first | exact HB.out | apply below_alloc | apply pw_below_drewN | apply below_drew1 | refine below_set ?_ GE361.out) | exact HB.out)⟩⟩
    · replace c5 := Bool.eq_false_iff.mpr c5
      subst c5
      have H1 : (trefoillaw18_LaneEnds.j0 k true l0_0 a0_1) = some r := by rw [if_neg (show ¬ (false = true) by decide)] at H; exact H
      clear H
      have H := H1
      clear H1
      have H' := Aside0.mk H
      clear H
      go_wp2_with (first | ((with_reducible refine gate_callee (f := 8) rfl ?_); refine goesL_ (some 12) rfl rfl Try.func8 (by kernel_rfl) rfl #[] rfl (by (try simp only [List.map_toArray, List.map_cons, List.map_nil]); first | done | rfl | (simp only [List.length_drop, List.length_take]; rfl)) ?_; (with_reducible refine (trefoillaw18_awake.calls k  false _ A4.out).mono ?_); rintro e w31 ⟨rfl, hb⟩; refine ⟨_, rfl, ?_⟩; have n0_ := Aside0.mk (blk_below (g := gb361) (o := .cells #[.slice A0_0 l0_0.length c0_0, .int .i64 a0_1] 24 (0, 0)) (by (with_reducible repeat (first | refine blk_drewN ?_ _ | refine blk_drew ?_ | refine blk_alloc ?_ _)); exact BK361.out) hb); have n1_ := Aside0.mk (below_step (by repeat (first | (with_reducible first | exact HB.out | apply below_alloc | apply pw_below_drewN | apply below_drew1 | refine below_set ?_ GE361.out) | exact HB.out)) hb); clear BK361; clear HB; have BK361 := n0_; have HB := n1_; clear n0_ n1_; (try clear hb); (try clear hb2); (try clear hk); (try clear hi)))
      go_meet
      case rel => exact ⟨_, (true), (by first | rfl | (simp; done) | (simp [*]; done)), H', ⟨by first | omega | exact Nat.le_refl _⟩, ⟨by (with_reducible repeat (first | refine blk_drewN ?_ _ | refine blk_drew ?_ | refine blk_alloc ?_ _)); exact BK361.out⟩, ⟨by repeat (first | (with_reducible first | exact HB.out | apply below_alloc | apply pw_below_drewN | apply below_drew1 | refine below_set ?_ GE361.out) | exact HB.out)⟩⟩
  case rest =>
    clear HC2
    try clear c1
    try clear p2
    try clear c4
    try clear c5
    try clear c7
    try clear c8
    try clear c10
    try clear c10b0
    try clear c10b1
    try clear hcz13_0
    try clear hcz13_1
    try clear hcz15_0
    try clear hcz15_1
    try clear hcz19_0
    try clear hcz19_1
    try clear hcz22_0
    try clear hcz22_1
    try clear hcz24_0
    try clear hcz24_1
    try clear hcz29_0
    try clear hcz29_1
    try clear hfz13_0
    try clear hfz13_1
    try clear hfz15_0
    try clear hfz15_1
    try clear hfz19_0
    try clear hfz19_1
    try clear hfz22_0
    try clear hfz22_1
    try clear hfz24_0
    try clear hfz24_1
    try clear hfz29_0
    try clear hfz29_1
    obtain ⟨kq, x29_1, rfl, HA, HJ1, BK361, HB⟩ := hcut
    cases kq with
    | zero => exact absurd HA.out (by simp [trefoillaw18_LaneEnds.j0])
    | succ kj1 =>
      have H := HA.out
      clear HA
      simp only [trefoillaw18_LaneEnds.j0] at H
      by_cases c32 : x29_1 = true
      · subst c32
        have H1 : ((trefoillaw18_awake.f kj1).bind fun t370 => (some t370)) = some r := by rw [if_pos rfl] at H; exact H
        clear H
        have H := H1
        clear H1
        replace H := Option.bind_eq_some_iff.mp H
        obtain ⟨t370, A330, H⟩ := H
        replace H : (some t370) = some r := H
        have A33 := Aside0.mk A330
        clear A330
        obtain rfl := Option.some.inj H
        go_wp2_with (first | ((with_reducible refine gate_callee (f := 8) rfl ?_); refine goesL_ (some 30) rfl rfl Try.func8 (by kernel_rfl) rfl #[] rfl (by (try simp only [List.map_toArray, List.map_cons, List.map_nil]); first | done | rfl | (simp only [List.length_drop, List.length_take]; rfl)) ?_; (with_reducible refine (trefoillaw18_awake.calls kj1  t370 _ A33.out).mono ?_); rintro e w34 ⟨rfl, hb⟩; refine ⟨_, rfl, ?_⟩; have n0_ := Aside0.mk (blk_below (g := gb361) (o := .cells #[.slice A0_0 l0_0.length c0_0, .int .i64 a0_1] 24 (0, 0)) (by (with_reducible repeat (first | refine blk_drewN ?_ _ | refine blk_drew ?_ | refine blk_alloc ?_ _)); exact BK361.out) hb); have n1_ := Aside0.mk (below_step (by repeat (first | (with_reducible first | exact HB.out | apply below_alloc | apply pw_below_drewN | apply below_drew1 | refine below_set ?_ GE361.out) | exact HB.out)) hb); clear BK361; clear HB; have BK361 := n0_; have HB := n1_; clear n0_ n1_; (try clear hb); (try clear hb2); (try clear hk); (try clear hi)))
        go_ret
        exact ⟨by first | rfl | (simp [errW_none, errW_some] <;> rfl) | (simp [*, errW_none, errW_some] <;> rfl), by repeat (first | (with_reducible first | exact HB.out | apply below_alloc | apply pw_below_drewN | apply below_drew1 | refine below_set ?_ GE361.out) | exact HB.out)⟩
      · replace c32 := Bool.eq_false_iff.mpr c32
        subst c32
        have H1 : ((trefoillaw18_Own.f kj1 l0_0 a0_1).bind fun bt371 => ((trefoillaw18_much.f kj1 l0_0 a0_1).bind fun t376 => (trefoillaw18_LaneEnds.l0 kj1 a0_1 t376 bt371.1 bt371.2))) = some r := by rw [if_neg (show ¬ (false = true) by decide)] at H; exact H
        clear H
        have H := H1
        clear H1
        replace H := Option.bind_eq_some_iff.mp H
        obtain ⟨⟨t371, t374⟩, A350, H⟩ := H
        replace H : ((trefoillaw18_much.f kj1 l0_0 a0_1).bind fun t376 => (trefoillaw18_LaneEnds.l0 kj1 a0_1 t376 t371 t374)) = some r := H
        have A35 := Aside0.mk A350
        clear A350
        replace H := Option.bind_eq_some_iff.mp H
        obtain ⟨t376, A360, H⟩ := H
        replace H : (trefoillaw18_LaneEnds.l0 kj1 a0_1 t376 t371 t374) = some r := H
        have A36 := Aside0.mk A360
        clear A360
        have H' := Aside0.mk H
        clear H
        try go_wp2
        have n0_ := Aside0.mk (blk_drew BK361.out)
        have n1_ := Aside0.mk (below_drew1 HB.out)
        clear BK361
        clear HB
        have BK361 := n0_
        have HB := n1_
        clear n0_ n1_
        refine start_ (n := 7) (S := fun w' => w'.cell? ⟨gb361, 0, none⟩ = some (.slice A0_0 l0_0.length c0_0) ∧ w'.cell? ⟨gb361, 1, none⟩ = some (.int .i64 a0_1)) (ds := []) #[false, false, false, false, false, false, false] (by kernel_rfl) rfl rfl ⟨(blk_cell BK361.out 0).trans rfl, (blk_cell BK361.out 1).trans rfl⟩ (fun hHeld => ?_)
        generalize wc.drew = w37 at BK361 HB hHeld ⊢
        refine pure_ (i := 2) (N := some 33) (v := ?_) (a' := ?_) #[false, false, true, false, false, false, false] rfl rfl (by kernel_rfl) (fun _ _ _ h => h) (Or.inl ⟨by rfl, ?_⟩) ?_ ?_
        rotate_left
        · intro w'
          go_simp
          with_reducible rfl
        rotate_left
        · simp only [Act.put, List.setIfInBounds_toArray, List.set_cons_zero, List.set_cons_succ, i64_w, i32_w]
          rfl
        refine take_ (i := 0) (N := some 31) (v := ?_) (a' := ?_) #[true, false, true, false, false, false, false] rfl rfl (by kernel_rfl) (fun _ _ _ h => h) (Or.inl ⟨by rfl, ?_⟩) hHeld ?_ ?_
        rotate_left
        · rintro w' ⟨s0, s1⟩
          go_simp
          with_reducible rfl
        rotate_left
        · simp only [Act.put, List.setIfInBounds_toArray, List.set_cons_zero, List.set_cons_succ, i64_w, i32_w]
          rfl
        refine take_ (i := 3) (N := some 34) (v := ?_) (a' := ?_) #[true, false, true, true, false, false, false] rfl rfl (by kernel_rfl) (fun _ _ _ h => h) (Or.inl ⟨by rfl, ?_⟩) hHeld ?_ ?_
        rotate_left
        · rintro w' ⟨s0, s1⟩
          go_simp
          with_reducible rfl
        rotate_left
        · simp only [Act.put, List.setIfInBounds_toArray, List.set_cons_zero, List.set_cons_succ, i64_w, i32_w]
          rfl
        refine join_ (σ := Value × Nat) 2 #[true, true, true, true, true, false, false] (fun s_ => [(32, .agg #[s_.1, .int .i64 t374]), (3, .pointer (some ⟨s_.2, 0, none⟩))]) (fun s_ w' => (w'.cell? ⟨gb361, 0, none⟩ = some (.slice A0_0 l0_0.length c0_0) ∧ w'.cell? ⟨gb361, 1, none⟩ = some (.int .i64 a0_1)) ∧ (Kd.S k27 27 w' w.heap.size (fun _ => True) s_.1 t371) ∧ (w'.heap[gb361]? = some (.cells #[.slice A0_0 l0_0.length c0_0, .int .i64 a0_1] 24 (0, 0))) ∧ (w'.heap[s_.2]? = some (.cells #[.slice none 0 0, .int .i64 0] 24 (0, 0))) ∧ (w.heap.size ≤ s_.2) ∧ (w.heap.size ≤ s_.2) ∧ (gb361 ≠ s_.2) ∧ (s_.2 ≠ gb361) ∧ (Below w.heap.size w w')) ?_ ?_
        rotate_left
        · intro hCont
          refine two_ (i := 1) (j := 4) (Ni := some 32) (Nj := some 3) #[true, true, true, true, false, false, false] #[true, false, true, true, true, false, false] rfl rfl rfl rfl (by kernel_rfl) (by decide) (by decide) (fun K hK => ?_) (fun K hK => ?_)
          · skip
            refine goes_ Try.func11 (by kernel_rfl) rfl #[.agg #[.slice A0_0 l0_0.length c0_0, .int .i64 a0_1]] (by rfl) rfl rfl (by (try simp only [List.map_toArray, List.map_cons, List.map_nil]); first | done | rfl | (simp only [List.length_drop, List.length_take]; rfl)) ?_
            with_reducible refine (trefoillaw18_Own.calls kj1 _ _ l0_0 a0_1 t371 t374 _ ?side1 ?side2 A35.out).mono ?_
            (case side1 => repeat (first | exact (Kd.C_below HR0_0.out HB.out) | (with_reducible refine Kd.C_alloc ?_ _) | (with_reducible refine Kd.C_drewN ?_ _) | (with_reducible refine Kd.C_drew ?_)))
            (case side2 => exact HC0_0.out)
            rintro e w38 ⟨v372, rfl, ho0, hb⟩
            refine ⟨_, rfl, ?_⟩
            have n0_ := Aside0.mk (Kd.S_lower ho0 (below_size (by repeat (first | (with_reducible first | exact HB.out | apply below_alloc | apply pw_below_drewN | apply below_drew1 | refine below_set ?_ GE361.out) | exact HB.out))))
            have n1_ := Aside0.mk (blk_below (g := gb361) (o := .cells #[.slice A0_0 l0_0.length c0_0, .int .i64 a0_1] 24 (0, 0)) (by (with_reducible repeat (first | refine blk_drewN ?_ _ | refine blk_drew ?_ | refine blk_alloc ?_ _)); exact BK361.out) hb)
            have n2_ := Aside0.mk (below_step (by repeat (first | (with_reducible first | exact HB.out | apply below_alloc | apply pw_below_drewN | apply below_drew1 | refine below_set ?_ GE361.out) | exact HB.out)) hb)
            clear BK361
            clear HB
            have HO373 := n0_
            have BK361 := n1_
            have HB := n2_
            clear n0_ n1_ n2_
            (try clear hb)
            (try clear hb2)
            (try clear hk)
            (try clear hi)
            (try clear ho0)
            refine hK.out _ _ ⟨(blk_cell BK361.out 0).trans rfl, (blk_cell BK361.out 1).trans rfl⟩ (fun hHeld => ?_)
            clear hK K
            refine norm_ (a' := ?_) ?_ ?_
            rotate_left
            · show Act.put _ (some 32) _ = _
              simp only [Act.put, List.setIfInBounds_toArray, List.set_cons_zero, List.set_cons_succ, i64_w, i32_w]
              rfl
            refine one_ (i := 4) (N := some 3) #[true, true, true, true, true, false, false] rfl rfl (by kernel_rfl) (by decide) (fun K hK => ?_)
            refine box_step ?hg (N := 3) ?hd (cs := #[.slice none 0 0, .int .i64 0]) (t := 24) ?hr ?_; (case hd => rfl); (case hg => rfl); (case hr => first | (go_simp; done) | (go_simp; rfl))
            intro gb375 hg w39 hbox hb
            have n0_ := Aside0.mk (Kd.S_below (by (with_reducible repeat (first | apply Kd.S_alloc | apply Kd.S_drewN | apply Kd.S_drew)); exact HO373.out) hb)
            have n1_ := Aside0.mk (blk_below (g := gb361) (o := .cells #[.slice A0_0 l0_0.length c0_0, .int .i64 a0_1] 24 (0, 0)) (by (with_reducible repeat (first | refine blk_drewN ?_ _ | refine blk_drew ?_ | refine blk_alloc ?_ _)); exact BK361.out) hb)
            have n2_ := Aside0.mk (below_step (by repeat (first | (with_reducible first | exact HB.out | apply below_alloc | apply pw_below_drewN | apply below_drew1 | refine below_set ?_ GE361.out) | exact HB.out)) hb)
            have n3_ := Aside0.mk (hbox)
            have n4_ := Aside0.mk ((by rw [hg]; exact (below_size (by repeat (first | (with_reducible first | exact HB.out | apply below_alloc | apply pw_below_drewN | apply below_drew1 | refine below_set ?_ GE361.out) | exact HB.out))) : w.heap.size ≤ gb375))
            have n5_ := Aside0.mk ((by rw [hg]; exact (below_size (by repeat (first | (with_reducible first | exact HB.out | apply below_alloc | apply pw_below_drewN | apply below_drew1 | refine below_set ?_ GE361.out) | exact HB.out))) : w.heap.size ≤ gb375))
            have n6_ := Aside0.mk ((by rw [hg]; exact Nat.ne_of_lt (blk_lt (g := gb361) (o := .cells #[.slice A0_0 l0_0.length c0_0, .int .i64 a0_1] 24 (0, 0)) (by (with_reducible repeat (first | refine blk_drewN ?_ _ | refine blk_drew ?_ | refine blk_alloc ?_ _)); exact BK361.out)) : gb361 ≠ gb375))
            have n7_ := Aside0.mk ((by rw [hg]; exact Nat.ne_of_gt (blk_lt (g := gb361) (o := .cells #[.slice A0_0 l0_0.length c0_0, .int .i64 a0_1] 24 (0, 0)) (by (with_reducible repeat (first | refine blk_drewN ?_ _ | refine blk_drew ?_ | refine blk_alloc ?_ _)); exact BK361.out)) : gb375 ≠ gb361))
            clear HO373
            clear BK361
            clear HB
            have HO373 := n0_
            have BK361 := n1_
            have HB := n2_
            have BK375 := n3_
            have GW375 := n4_
            have GE375 := n5_
            have NB361_375 := n6_
            have NB375_361 := n7_
            clear n0_ n1_ n2_ n3_ n4_ n5_ n6_ n7_
            clear hb hbox hg
            refine hK.out _ _ ⟨(blk_cell BK361.out 0).trans rfl, (blk_cell BK361.out 1).trans rfl⟩ (fun hHeld => ?_)
            clear hK K
            refine norm_ (a' := ?_) ?_ ?_
            rotate_left
            · show Act.put _ (some 3) _ = _
              simp only [Act.put, List.setIfInBounds_toArray, List.set_cons_zero, List.set_cons_succ, i64_w, i32_w]
              rfl
            exact norm_ (by simp only [putAll, Act.put, List.setIfInBounds_toArray, List.set_cons_zero, List.set_cons_succ]) (hCont (v372, gb375) _ ⟨hHeld, (by (with_reducible repeat (first | apply Kd.S_alloc | apply Kd.S_drewN | apply Kd.S_drew)); exact HO373.out), (by (with_reducible repeat (first | refine blk_drewN ?_ _ | refine blk_drew ?_ | refine blk_alloc ?_ _)); exact BK361.out), (by (with_reducible repeat (first | refine blk_drewN ?_ _ | refine blk_drew ?_ | refine blk_alloc ?_ _)); exact BK375.out), GW375.out, GE375.out, NB361_375.out, NB375_361.out, (by repeat (first | (with_reducible first | exact HB.out | apply below_alloc | apply pw_below_drewN | apply below_drew1 | refine below_set ?_ GE361.out | refine below_set ?_ GE375.out) | exact HB.out))⟩)
          · skip
            refine box_step ?hg (N := 3) ?hd (cs := #[.slice none 0 0, .int .i64 0]) (t := 24) ?hr ?_; (case hd => rfl); (case hg => rfl); (case hr => first | (go_simp; done) | (go_simp; rfl))
            intro gb375 hg w38 hbox hb
            have n0_ := Aside0.mk (blk_below (g := gb361) (o := .cells #[.slice A0_0 l0_0.length c0_0, .int .i64 a0_1] 24 (0, 0)) (by (with_reducible repeat (first | refine blk_drewN ?_ _ | refine blk_drew ?_ | refine blk_alloc ?_ _)); exact BK361.out) hb)
            have n1_ := Aside0.mk (below_step (by repeat (first | (with_reducible first | exact HB.out | apply below_alloc | apply pw_below_drewN | apply below_drew1 | refine below_set ?_ GE361.out) | exact HB.out)) hb)
            have n2_ := Aside0.mk (hbox)
            have n3_ := Aside0.mk ((by rw [hg]; exact (below_size (by repeat (first | (with_reducible first | exact HB.out | apply below_alloc | apply pw_below_drewN | apply below_drew1 | refine below_set ?_ GE361.out) | exact HB.out))) : w.heap.size ≤ gb375))
            have n4_ := Aside0.mk ((by rw [hg]; exact (below_size (by repeat (first | (with_reducible first | exact HB.out | apply below_alloc | apply pw_below_drewN | apply below_drew1 | refine below_set ?_ GE361.out) | exact HB.out))) : w.heap.size ≤ gb375))
            have n5_ := Aside0.mk ((by rw [hg]; exact Nat.ne_of_lt (blk_lt (g := gb361) (o := .cells #[.slice A0_0 l0_0.length c0_0, .int .i64 a0_1] 24 (0, 0)) (by (with_reducible repeat (first | refine blk_drewN ?_ _ | refine blk_drew ?_ | refine blk_alloc ?_ _)); exact BK361.out)) : gb361 ≠ gb375))
            have n6_ := Aside0.mk ((by rw [hg]; exact Nat.ne_of_gt (blk_lt (g := gb361) (o := .cells #[.slice A0_0 l0_0.length c0_0, .int .i64 a0_1] 24 (0, 0)) (by (with_reducible repeat (first | refine blk_drewN ?_ _ | refine blk_drew ?_ | refine blk_alloc ?_ _)); exact BK361.out)) : gb375 ≠ gb361))
            clear BK361
            clear HB
            have BK361 := n0_
            have HB := n1_
            have BK375 := n2_
            have GW375 := n3_
            have GE375 := n4_
            have NB361_375 := n5_
            have NB375_361 := n6_
            clear n0_ n1_ n2_ n3_ n4_ n5_ n6_
            clear hb hbox hg
            refine hK.out _ _ ⟨(blk_cell BK361.out 0).trans rfl, (blk_cell BK361.out 1).trans rfl⟩ (fun hHeld => ?_)
            clear hK K
            refine norm_ (a' := ?_) ?_ ?_
            rotate_left
            · show Act.put _ (some 3) _ = _
              simp only [Act.put, List.setIfInBounds_toArray, List.set_cons_zero, List.set_cons_succ, i64_w, i32_w]
              rfl
            refine one_ (i := 1) (N := some 32) #[true, true, true, true, true, false, false] rfl rfl (by kernel_rfl) (by decide) (fun K hK => ?_)
            refine goes_ Try.func11 (by kernel_rfl) rfl #[.agg #[.slice A0_0 l0_0.length c0_0, .int .i64 a0_1]] (by rfl) rfl rfl (by (try simp only [List.map_toArray, List.map_cons, List.map_nil]); first | done | rfl | (simp only [List.length_drop, List.length_take]; rfl)) ?_
            with_reducible refine (trefoillaw18_Own.calls kj1 _ _ l0_0 a0_1 t371 t374 _ ?side1 ?side2 A35.out).mono ?_
            (case side1 => repeat (first | exact (Kd.C_below HR0_0.out HB.out) | (with_reducible refine Kd.C_alloc ?_ _) | (with_reducible refine Kd.C_drewN ?_ _) | (with_reducible refine Kd.C_drew ?_)))
            (case side2 => exact HC0_0.out)
            rintro e w39 ⟨v372, rfl, ho0, hb⟩
            refine ⟨_, rfl, ?_⟩
            have n0_ := Aside0.mk (Kd.S_lower ho0 (below_size (by repeat (first | (with_reducible first | exact HB.out | apply below_alloc | apply pw_below_drewN | apply below_drew1 | refine below_set ?_ GE361.out | refine below_set ?_ GE375.out) | exact HB.out))))
            have n1_ := Aside0.mk (blk_below (g := gb361) (o := .cells #[.slice A0_0 l0_0.length c0_0, .int .i64 a0_1] 24 (0, 0)) (by (with_reducible repeat (first | refine blk_drewN ?_ _ | refine blk_drew ?_ | refine blk_alloc ?_ _)); exact BK361.out) hb)
            have n2_ := Aside0.mk (blk_below (g := gb375) (o := .cells #[.slice none 0 0, .int .i64 0] 24 (0, 0)) (by (with_reducible repeat (first | refine blk_drewN ?_ _ | refine blk_drew ?_ | refine blk_alloc ?_ _)); exact BK375.out) hb)
            have n3_ := Aside0.mk (below_step (by repeat (first | (with_reducible first | exact HB.out | apply below_alloc | apply pw_below_drewN | apply below_drew1 | refine below_set ?_ GE361.out | refine below_set ?_ GE375.out) | exact HB.out)) hb)
            clear BK361
            clear BK375
            clear HB
            have HO373 := n0_
            have BK361 := n1_
            have BK375 := n2_
            have HB := n3_
            clear n0_ n1_ n2_ n3_
            (try clear hb)
            (try clear hb2)
            (try clear hk)
            (try clear hi)
            (try clear ho0)
            refine hK.out _ _ ⟨(blk_cell BK361.out 0).trans rfl, (blk_cell BK361.out 1).trans rfl⟩ (fun hHeld => ?_)
            clear hK K
            refine norm_ (a' := ?_) ?_ ?_
            rotate_left
            · show Act.put _ (some 32) _ = _
              simp only [Act.put, List.setIfInBounds_toArray, List.set_cons_zero, List.set_cons_succ, i64_w, i32_w]
              rfl
            exact norm_ (by simp only [putAll, Act.put, List.setIfInBounds_toArray, List.set_cons_zero, List.set_cons_succ]) (hCont (v372, gb375) _ ⟨hHeld, (by (with_reducible repeat (first | apply Kd.S_alloc | apply Kd.S_drewN | apply Kd.S_drew)); exact HO373.out), (by (with_reducible repeat (first | refine blk_drewN ?_ _ | refine blk_drew ?_ | refine blk_alloc ?_ _)); exact BK361.out), (by (with_reducible repeat (first | refine blk_drewN ?_ _ | refine blk_drew ?_ | refine blk_alloc ?_ _)); exact BK375.out), GW375.out, GE375.out, NB361_375.out, NB375_361.out, (by repeat (first | (with_reducible first | exact HB.out | apply below_alloc | apply pw_below_drewN | apply below_drew1 | refine below_set ?_ GE361.out | refine below_set ?_ GE375.out) | exact HB.out))⟩)
        rintro ⟨v372, gb375⟩ w40 ⟨hS_, h0_, h1_, h2_, h3_, h4_, h5_, h6_, h7_⟩
        have n0_ : Aside0 (Kd.S k27 27 w40 w.heap.size (fun _ => True) v372 t371) := ⟨h0_⟩
        have n1_ : Aside0 (w40.heap[gb361]? = some (.cells #[.slice A0_0 l0_0.length c0_0, .int .i64 a0_1] 24 (0, 0))) := ⟨h1_⟩
        have n2_ : Aside0 (w40.heap[gb375]? = some (.cells #[.slice none 0 0, .int .i64 0] 24 (0, 0))) := ⟨h2_⟩
        have n3_ : Aside0 (w.heap.size ≤ gb375) := ⟨h3_⟩
        have n4_ : Aside0 (w.heap.size ≤ gb375) := ⟨h4_⟩
        have n5_ : Aside0 (gb361 ≠ gb375) := ⟨h5_⟩
        have n6_ : Aside0 (gb375 ≠ gb361) := ⟨h6_⟩
        have n7_ : Aside0 (Below w.heap.size w w40) := ⟨h7_⟩
        clear BK361
        clear HB
        clear h0_ h1_ h2_ h3_ h4_ h5_ h6_ h7_
        have HO373 := n0_
        have BK361 := n1_
        have BK375 := n2_
        have GW375 := n3_
        have GE375 := n4_
        have NB361_375 := n5_
        have NB375_361 := n6_
        have HB := n7_
        clear n0_ n1_ n2_ n3_ n4_ n5_ n6_ n7_
        have hHeld : w40.cell? ⟨gb361, 0, none⟩ = some (.slice A0_0 l0_0.length c0_0) ∧ w40.cell? ⟨gb361, 1, none⟩ = some (.int .i64 a0_1) := hS_
        obtain ⟨Ao41, co41, eo41⟩ := Kd.S_slice HO373.out
        (first | subst eo41 | (injection eo41 with f1_ f2_ f3_; have f4_ := f1_.symm; have f5_ := f3_.symm; clear f1_ f2_ f3_; subst f4_; subst f5_))
        refine norm_ (a' := ?_) ?_ ?_
        rotate_left
        · simp only [putAll, Act.put, List.setIfInBounds_toArray, List.set_cons_zero, List.set_cons_succ]
          rfl
        refine one_ (i := 5) (N := none) #[true, true, true, true, true, true, false] rfl rfl (by kernel_rfl) (by decide) (fun K hK => ?_)
        have hs42 : w40.cell? ⟨gb375, 0, none⟩ = some (.slice none 0 0) := (blk_cell BK375.out 0).trans rfl
        have hfs42 := blk_frozen BK375.out 0
        have hns42_0 := NB361_375.out
        have hms42_0 := NB375_361.out
        have hs43 : w40.cell? ⟨gb375, 1, none⟩ = some (.int .i64 0) := (blk_cell BK375.out 1).trans rfl
        have hfs43 := blk_frozen BK375.out 1
        have hns43_0 := NB361_375.out
        have hms43_0 := NB375_361.out
        refine skip_ (w1 := ?_) (by rfl) rfl ?_ ?_
        rotate_left
        · go_simp
          rfl
        refine hK.out _ _ ⟨((cell_far (p := ⟨gb375, _, none⟩) NB361_375.out _).trans (((cell_far (p := ⟨gb375, _, none⟩) NB361_375.out _).trans (hHeld.1)))), ((cell_far (p := ⟨gb375, _, none⟩) NB361_375.out _).trans (((cell_far (p := ⟨gb375, _, none⟩) NB361_375.out _).trans (hHeld.2))))⟩ (fun hHeld => ?_)
        clear hK K
        refine pure_ (i := 6) (N := some 4) (v := ?_) (a' := ?_) #[true, true, true, true, true, true, true] rfl rfl (by kernel_rfl) (fun _ _ _ h => h) (Or.inl ⟨by rfl, ?_⟩) ?_ ?_
        rotate_left
        · intro w'
          go_simp
          with_reducible rfl
        rotate_left
        · simp only [Act.put, List.setIfInBounds_toArray, List.set_cons_zero, List.set_cons_succ, i64_w, i32_w]
          rfl
        refine done_ (by kernel_rfl) ?_
        have hnb44 := NB361_375.out
        have hnc44 := NB375_361.out
        have hcz45_0 : w40.cell? ⟨gb361, 0, none⟩ = some (.slice A0_0 l0_0.length c0_0) := (blk_cell BK361.out 0).trans rfl
        have hcz45_1 : w40.cell? ⟨gb361, 1, none⟩ = some (.int .i64 a0_1) := (blk_cell BK361.out 1).trans rfl
        have hfz45_0 := blk_frozen BK361.out 0
        have hfz45_1 := blk_frozen BK361.out 1
        try go_wp2_with (first | ((with_reducible refine gate_callee (f := 23) rfl ?_); refine goesL_ (some 36) rfl rfl Try.func23 (by kernel_rfl) rfl #[.agg #[.slice A0_0 l0_0.length c0_0, .int .i64 a0_1]] rfl (by (try simp only [List.map_toArray, List.map_cons, List.map_nil]); first | done | rfl | (simp only [List.length_drop, List.length_take]; rfl)) ?_; (with_reducible refine (trefoillaw18_much.calls kj1 _ _ l0_0 a0_1 t376 _ ?side1 ?side2 A36.out).mono ?_); (case side1 => exact Kd.C_below HR0_0.out (by repeat (first | (with_reducible first | exact HB.out | apply below_alloc | apply pw_below_drewN | apply below_drew1 | refine below_set ?_ GE361.out | refine below_set ?_ GE375.out) | exact HB.out))); (case side2 => exact HC0_0.out); rintro e w46 ⟨rfl, hb⟩; refine ⟨_, rfl, ?_⟩; have n0_ := Aside0.mk (Kd.S_below (by (with_reducible repeat (first | apply Kd.S_alloc | apply Kd.S_drewN | apply Kd.S_drew)); exact (Kd.S_mono (Kd.S_far (p := ⟨gb375, 1, none⟩) (Kd.S_far (p := ⟨gb375, 0, none⟩) (Kd.S_types HO373.out BK375.out (by decide)) (fun _ hk => hk.2) (.slice Ao41 t371.length co41)) (fun _ hk => hk.2) (.int .i64 t374)) (fun _ h_ => h_.1))) hb); have n1_ := Aside0.mk (blk_below (g := gb361) (o := .cells #[.slice A0_0 l0_0.length c0_0, .int .i64 a0_1] 24 (0, 0)) (by (with_reducible repeat (first | refine blk_drewN ?_ _ | refine blk_drew ?_ | refine blk_alloc ?_ _)); refine blk_far ?_ NB361_375.out _; (with_reducible repeat (first | refine blk_drewN ?_ _ | refine blk_drew ?_ | refine blk_alloc ?_ _)); refine blk_far ?_ NB361_375.out _; (with_reducible repeat (first | refine blk_drewN ?_ _ | refine blk_drew ?_ | refine blk_alloc ?_ _)); exact BK361.out) hb); have n2_ := Aside0.mk (blk_below (g := gb375) (o := .cells #[.slice Ao41 t371.length co41, .int .i64 t374] 24 (0, 0)) (by (with_reducible repeat (first | refine blk_drewN ?_ _ | refine blk_drew ?_ | refine blk_alloc ?_ _)); refine blk_put (cs := #[.slice Ao41 t371.length co41, .int .i64 0]) ?_ 1 _ rfl; (with_reducible repeat (first | refine blk_drewN ?_ _ | refine blk_drew ?_ | refine blk_alloc ?_ _)); refine blk_put (cs := #[.slice none 0 0, .int .i64 0]) ?_ 0 _ rfl; (with_reducible repeat (first | refine blk_drewN ?_ _ | refine blk_drew ?_ | refine blk_alloc ?_ _)); exact BK375.out) hb); have n3_ := Aside0.mk (below_step (by repeat (first | (with_reducible first | exact HB.out | apply below_alloc | apply pw_below_drewN | apply below_drew1 | refine below_set ?_ GE361.out | refine below_set ?_ GE375.out) | exact HB.out)) hb); clear HO373; clear BK361; clear BK375; clear HB; have HO373 := n0_; have BK361 := n1_; have BK375 := n2_; have HB := n3_; clear n0_ n1_ n2_ n3_; (try clear hb); (try clear hb2); (try clear hk); (try clear hi)))
        go_loopg [4, 5] kj1 (fun kq v4 v5 w' => ∃ (x4_2 : Int) (x5_2 : Int) (x376000_2 : List (S27)) (x376001_2 : Int) (u376000 : Value), v4 = .int .i64 x4_2 ∧ v5 = .int .i64 x5_2 ∧ Aside0 (trefoillaw18_LaneEnds.l0 kq x4_2 x5_2 x376000_2 x376001_2 = some r) ∧ Aside0 (kq ≤ kj1) ∧ Aside0 (Kd.V k27 27 w' w.heap.size (fun k_ => k_ ≠ gb361 ∧ k_ ≠ gb375) u376000 x376000_2) ∧ Aside0 (w'.heap[gb361]? = some (.cells #[(.slice A0_0 l0_0.length c0_0), .int .i64 a0_1] 24 (0, 0))) ∧ Aside0 (w'.heap[gb375]? = some (.cells #[u376000, .int .i64 x376001_2] 24 (0, 0))) ∧ Aside0 (Below w.heap.size w w'))
        case atStart => exact ⟨(a0_1), (t376), (t371), (t374), (.slice Ao41 t371.length co41), (by first | rfl | (simp; done) | (simp [*]; done)), (by first | rfl | (simp; done) | (simp [*]; done)), H', ⟨Nat.le_refl _⟩, ⟨Kd.S_V (by (with_reducible repeat (first | apply Kd.S_alloc | apply Kd.S_drewN | apply Kd.S_drew)); exact Kd.S_mono (Kd.S_types (Kd.S_types HO373.out BK361.out (by decide)) BK375.out (by decide)) (fun _ hk => ⟨hk.1.2, hk.2⟩))⟩, ⟨by (with_reducible repeat (first | refine blk_drewN ?_ _ | refine blk_drew ?_ | refine blk_alloc ?_ _)); exact BK361.out⟩, ⟨by (with_reducible repeat (first | refine blk_drewN ?_ _ | refine blk_drew ?_ | refine blk_alloc ?_ _)); exact BK375.out⟩, ⟨by repeat (first | (with_reducible first | exact HB.out | apply below_alloc | apply pw_below_drewN | apply below_drew1 | refine below_set ?_ GE361.out | refine below_set ?_ GE375.out) | exact HB.out)⟩⟩
        case round =>
          clear H'
          try clear c1
          try clear c2
          try clear p2
          try clear c3
          try clear c4
          try clear c5
          try clear c7
          try clear c8
          try clear c10
          try clear c10b0
          try clear c10b1
          try clear c11
          try clear c23
          try clear c32
          try clear c44
          try clear hcz13_0
          try clear hcz13_1
          try clear hcz15_0
          try clear hcz15_1
          try clear hcz19_0
          try clear hcz19_1
          try clear hcz22_0
          try clear hcz22_1
          try clear hcz24_0
          try clear hcz24_1
          try clear hcz29_0
          try clear hcz29_1
          try clear hcz45_0
          try clear hcz45_1
          try clear hfz13_0
          try clear hfz13_1
          try clear hfz15_0
          try clear hfz15_1
          try clear hfz19_0
          try clear hfz19_1
          try clear hfz22_0
          try clear hfz22_1
          try clear hfz24_0
          try clear hfz24_1
          try clear hfz29_0
          try clear hfz29_1
          try clear hfz45_0
          try clear hfz45_1
          try clear p2
          obtain ⟨x4_2, x5_2, x376000_2, x376001_2, u376000, rfl, rfl, HA, HK2, HO_376000, BK361, BK375, HB⟩ := hrel
          cases gk with
          | zero => exact absurd HA.out (by simp [trefoillaw18_LaneEnds.l0])
          | succ k2 =>
            have H := HA.out
            clear HA
            simp only [trefoillaw18_LaneEnds.l0] at H
            by_cases c47 : x5_2 > 0
            · rw [if_pos c47] at H
              have c47b0 : decide (0 < x5_2) = true := decide_eq_true c47
              clear c47
              replace H := Option.bind_eq_some_iff.mp H
              obtain ⟨⟨t391, t394⟩, A480, H⟩ := H
              replace H : ((lane_Tick.f k2 t391 t394).bind fun bt395 => (if bt395.2.2.2.2.2 = 0 then (if bt395.2.2.1 < 0 then (trefoillaw18_LaneEnds.j2 k2 x5_2 true x376000_2 x376001_2 bt395.1 bt395.2.1 bt395.2.2.1 bt395.2.2.2.1 bt395.2.2.2.2.1) else ((trefoillaw18_much.f k2 bt395.1 bt395.2.1).bind fun t405 => (if t405 = (wrap64 (x5_2 - 1)) then (if x4_2 ≥ 0 then (if bt395.2.2.1 = x4_2 then ((trefoillaw18_Own.f k2 bt395.1 bt395.2.1).bind fun bt406 => ((lane_Check.f k2 bt406.1 bt406.2).bind fun t410 => (trefoillaw18_LaneEnds.j2 k2 x5_2 (t410 != 0) x376000_2 x376001_2 bt395.1 bt395.2.1 bt395.2.2.1 bt395.2.2.2.1 bt395.2.2.2.2.1))) else (trefoillaw18_LaneEnds.j2 k2 x5_2 true x376000_2 x376001_2 bt395.1 bt395.2.1 bt395.2.2.1 bt395.2.2.2.1 bt395.2.2.2.2.1)) else ((trefoillaw18_Own.f k2 bt395.1 bt395.2.1).bind fun bt411 => ((lane_Check.f k2 bt411.1 bt411.2).bind fun t415 => (trefoillaw18_LaneEnds.j2 k2 x5_2 (t415 != 0) x376000_2 x376001_2 bt395.1 bt395.2.1 bt395.2.2.1 bt395.2.2.2.1 bt395.2.2.2.2.1)))) else (trefoillaw18_LaneEnds.j2 k2 x5_2 true x376000_2 x376001_2 bt395.1 bt395.2.1 bt395.2.2.1 bt395.2.2.2.1 bt395.2.2.2.2.1)))) else (trefoillaw18_LaneEnds.j2 k2 x5_2 true x376000_2 x376001_2 bt395.1 bt395.2.1 bt395.2.2.1 bt395.2.2.2.1 bt395.2.2.2.2.1))) = some r := H
              have A48 := Aside0.mk A480
              clear A480
              replace H := Option.bind_eq_some_iff.mp H
              obtain ⟨⟨t395, t398, t399, t400, t401, t402⟩, A490, H⟩ := H
              replace H : (if t402 = 0 then (if t399 < 0 then (trefoillaw18_LaneEnds.j2 k2 x5_2 true x376000_2 x376001_2 t395 t398 t399 t400 t401) else ((trefoillaw18_much.f k2 t395 t398).bind fun t405 => (if t405 = (wrap64 (x5_2 - 1)) then (if x4_2 ≥ 0 then (if t399 = x4_2 then ((trefoillaw18_Own.f k2 t395 t398).bind fun bt406 => ((lane_Check.f k2 bt406.1 bt406.2).bind fun t410 => (trefoillaw18_LaneEnds.j2 k2 x5_2 (t410 != 0) x376000_2 x376001_2 t395 t398 t399 t400 t401))) else (trefoillaw18_LaneEnds.j2 k2 x5_2 true x376000_2 x376001_2 t395 t398 t399 t400 t401)) else ((trefoillaw18_Own.f k2 t395 t398).bind fun bt411 => ((lane_Check.f k2 bt411.1 bt411.2).bind fun t415 => (trefoillaw18_LaneEnds.j2 k2 x5_2 (t415 != 0) x376000_2 x376001_2 t395 t398 t399 t400 t401)))) else (trefoillaw18_LaneEnds.j2 k2 x5_2 true x376000_2 x376001_2 t395 t398 t399 t400 t401)))) else (trefoillaw18_LaneEnds.j2 k2 x5_2 true x376000_2 x376001_2 t395 t398 t399 t400 t401)) = some r := H
              have A49 := Aside0.mk A490
              clear A490
              have HC50 := Aside0.mk H
              clear H
              have hnb51 := NB375_361.out
              have hnc51 := NB361_375.out
              have hcz52_0 : wr.cell? ⟨gb375, 0, none⟩ = some (u376000) := (blk_cell BK375.out 0).trans rfl
              have hcz52_1 : wr.cell? ⟨gb375, 1, none⟩ = some (.int .i64 x376001_2) := (blk_cell BK375.out 1).trans rfl
              have hfz52_0 := blk_frozen BK375.out 0
              have hfz52_1 := blk_frozen BK375.out 1
              obtain ⟨Ao53, co53, eo53⟩ := Kd.V_slice HO_376000.out
              subst eo53
              go_upto_region 8 with (first | ((with_reducible refine gate_callee (f := 11) rfl ?_); refine goesL_ (some 43) rfl rfl Try.func11 (by kernel_rfl) rfl #[.agg #[.slice Ao53 x376000_2.length co53, .int .i64 x376001_2]] rfl (by (try simp only [List.map_toArray, List.map_cons, List.map_nil]); first | done | rfl | (simp only [List.length_drop, List.length_take]; rfl)) ?_; (with_reducible refine (trefoillaw18_Own.calls k2 _ _ x376000_2 x376001_2 t391 t394 _ ?side1 ?side2 A48.out).mono ?_); (case side1 => repeat (first | exact (Kd.V_reads' HO_376000.out).2.2 | (with_reducible refine Kd.C_alloc ?_ _) | (with_reducible refine Kd.C_drewN ?_ _) | (with_reducible refine Kd.C_drew ?_))); (case side2 => exact (Kd.V_reads' HO_376000.out).2.1); rintro e w54 ⟨v392, rfl, ho0, hb⟩; refine ⟨_, rfl, ?_⟩; have n0_ := Aside0.mk (Kd.V_elder' (by (with_reducible repeat (first | apply Kd.V_alloc | apply Kd.V_drewN | apply Kd.V_drew)); exact HO_376000.out) (Kd.S_base ho0) hb); have n1_ := Aside0.mk (Kd.S_lower ho0 (below_size (by repeat (first | (with_reducible first | exact HB.out | apply below_alloc | apply pw_below_drewN | apply below_drew1 | refine below_set ?_ GE361.out | refine below_set ?_ GE375.out) | exact HB.out)))); have n2_ := Aside0.mk (blk_below (g := gb361) (o := .cells #[.slice A0_0 l0_0.length c0_0, .int .i64 a0_1] 24 (0, 0)) (by (with_reducible repeat (first | refine blk_drewN ?_ _ | refine blk_drew ?_ | refine blk_alloc ?_ _)); exact BK361.out) hb); have n3_ := Aside0.mk (blk_below (g := gb375) (o := .cells #[.slice Ao53 x376000_2.length co53, .int .i64 x376001_2] 24 (0, 0)) (by (with_reducible repeat (first | refine blk_drewN ?_ _ | refine blk_drew ?_ | refine blk_alloc ?_ _)); exact BK375.out) hb); have n4_ := Aside0.mk (below_step (by repeat (first | (with_reducible first | exact HB.out | apply below_alloc | apply pw_below_drewN | apply below_drew1 | refine below_set ?_ GE361.out | refine below_set ?_ GE375.out) | exact HB.out)) hb); clear HO_376000; clear BK361; clear BK375; clear HB; have HO_376000 := n0_; have HO393 := n1_; have BK361 := n2_; have BK375 := n3_; have HB := n4_; clear n0_ n1_ n2_ n3_ n4_; (try clear hb); (try clear hb2); (try clear hk); (try clear hi); (try clear ho0); obtain ⟨Ao55, co55, eo55⟩ := Kd.S_slice HO393.out; subst eo55) | ((with_reducible refine gate_callee (f := 15) rfl ?_); refine goesL_ (some 44) rfl rfl Try.func15 (by kernel_rfl) rfl #[.agg #[.slice Ao55 t391.length co55, .int .i64 t394]] rfl (by (try simp only [List.map_toArray, List.map_cons, List.map_nil]); first | done | rfl | (simp only [List.length_drop, List.length_take]; rfl)) ?_; (with_reducible refine (lane_Tick.calls k2 _ _ t391 t394 t395 t398 t399 t400 t401 t402 _ ?side1 ?side2 A49.out).mono ?_); (case side1 => repeat (first | exact (Kd.S_reads' HO393.out).2.2 | (with_reducible refine Kd.C_alloc ?_ _) | (with_reducible refine Kd.C_drewN ?_ _) | (with_reducible refine Kd.C_drew ?_))); (case side2 => exact (Kd.S_reads' HO393.out).2.1); rintro e w56 ⟨v396, rfl, ho0, hb⟩; refine ⟨_, rfl, ?_⟩; have n0_ := Aside0.mk (Kd.V_below (by (with_reducible repeat (first | apply Kd.V_alloc | apply Kd.V_drewN | apply Kd.V_drew)); exact HO_376000.out) hb); have n1_ := Aside0.mk (Kd.S_below (by (with_reducible repeat (first | apply Kd.S_alloc | apply Kd.S_drewN | apply Kd.S_drew)); exact HO393.out) hb); have n2_ := Aside0.mk (Kd.V_lower (Kd.V_mono (ok' := fun k_ => some k_ ≠ (.slice Ao55 t391.length co55 : Value).ownBlock ∧ k_ ≠ gb361 ∧ k_ ≠ gb375) ho0 (fun k_ hk_ => ⟨(Kd.fresh' (Kd.S_lt (by (with_reducible repeat (first | apply Kd.S_alloc | apply Kd.S_drewN | apply Kd.S_drew)); exact HO393.out)) k_ hk_), (Kd.freshB (g := gb361) (o := .cells #[.slice A0_0 l0_0.length c0_0, .int .i64 a0_1] 24 (0, 0)) (by (with_reducible repeat (first | refine blk_drewN ?_ _ | refine blk_drew ?_ | refine blk_alloc ?_ _)); exact BK361.out) k_ hk_), (Kd.freshB (g := gb375) (o := .cells #[.slice Ao53 x376000_2.length co53, .int .i64 x376001_2] 24 (0, 0)) (by (with_reducible repeat (first | refine blk_drewN ?_ _ | refine blk_drew ?_ | refine blk_alloc ?_ _)); exact BK375.out) k_ hk_)⟩)) (below_size (by repeat (first | (with_reducible first | exact HB.out | apply below_alloc | apply pw_below_drewN | apply below_drew1 | refine below_set ?_ GE361.out | refine below_set ?_ GE375.out) | exact HB.out)))); have n3_ := Aside0.mk (blk_below (g := gb361) (o := .cells #[.slice A0_0 l0_0.length c0_0, .int .i64 a0_1] 24 (0, 0)) (by (with_reducible repeat (first | refine blk_drewN ?_ _ | refine blk_drew ?_ | refine blk_alloc ?_ _)); exact BK361.out) hb); have n4_ := Aside0.mk (blk_below (g := gb375) (o := .cells #[.slice Ao53 x376000_2.length co53, .int .i64 x376001_2] 24 (0, 0)) (by (with_reducible repeat (first | refine blk_drewN ?_ _ | refine blk_drew ?_ | refine blk_alloc ?_ _)); exact BK375.out) hb); have n5_ := Aside0.mk (below_step (by repeat (first | (with_reducible first | exact HB.out | apply below_alloc | apply pw_below_drewN | apply below_drew1 | refine below_set ?_ GE361.out | refine below_set ?_ GE375.out) | exact HB.out)) hb); clear HO_376000; clear HO393; clear BK361; clear BK375; clear HB; have HO_376000 := n0_; have HO393 := n1_; have HO397 := n2_; have BK361 := n3_; have BK375 := n4_; have HB := n5_; clear n0_ n1_ n2_ n3_ n4_ n5_; (try clear hb); (try clear hb2); (try clear hk); (try clear hi); (try clear ho0)) | ((with_reducible refine gate_dst (N := 6) rfl ?_); (try (refine gate_guard (by rfl) ?_; dsimp only)); refine box_event ?hg (N := 6) ?hd (cs := #[.slice none 0 0, .int .i64 0]) (t := 24) ?hr ?_; (case hd => rfl); (case hg => rfl); (case hr => first | (go_simp; done) | (go_simp; rfl)); intro gb403 hg w57 hbox hb; have n0_ := Aside0.mk (Kd.V_below (Kd.V_elderB (by (with_reducible repeat (first | apply Kd.V_alloc | apply Kd.V_drewN | apply Kd.V_drew)); exact HO_376000.out) gb403 (Nat.le_of_eq hg.symm)) hb); have n1_ := Aside0.mk (Kd.S_below (by (with_reducible repeat (first | apply Kd.S_alloc | apply Kd.S_drewN | apply Kd.S_drew)); exact HO393.out) hb); have n2_ := Aside0.mk (Kd.V_below (Kd.V_elderB (by (with_reducible repeat (first | apply Kd.V_alloc | apply Kd.V_drewN | apply Kd.V_drew)); exact HO397.out) gb403 (Nat.le_of_eq hg.symm)) hb); have n3_ := Aside0.mk (blk_below (g := gb361) (o := .cells #[.slice A0_0 l0_0.length c0_0, .int .i64 a0_1] 24 (0, 0)) (by (with_reducible repeat (first | refine blk_drewN ?_ _ | refine blk_drew ?_ | refine blk_alloc ?_ _)); exact BK361.out) hb); have n4_ := Aside0.mk (blk_below (g := gb375) (o := .cells #[.slice Ao53 x376000_2.length co53, .int .i64 x376001_2] 24 (0, 0)) (by (with_reducible repeat (first | refine blk_drewN ?_ _ | refine blk_drew ?_ | refine blk_alloc ?_ _)); exact BK375.out) hb); have n5_ := Aside0.mk (below_step (by repeat (first | (with_reducible first | exact HB.out | apply below_alloc | apply pw_below_drewN | apply below_drew1 | refine below_set ?_ GE361.out | refine below_set ?_ GE375.out) | exact HB.out)) hb); have n6_ := Aside0.mk (hbox); have n7_ := Aside0.mk ((by rw [hg]; exact (below_size (by repeat (first | (with_reducible first | exact HB.out | apply below_alloc | apply pw_below_drewN | apply below_drew1 | refine below_set ?_ GE361.out | refine below_set ?_ GE375.out) | exact HB.out))) : w.heap.size ≤ gb403)); have n8_ := Aside0.mk ((by rw [hg]; exact (below_size (by repeat (first | (with_reducible first | exact HB.out | apply below_alloc | apply pw_below_drewN | apply below_drew1 | refine below_set ?_ GE361.out | refine below_set ?_ GE375.out) | exact HB.out))) : w.heap.size ≤ gb403)); have n9_ := Aside0.mk ((by rw [hg]; exact Nat.ne_of_lt (blk_lt (g := gb361) (o := .cells #[.slice A0_0 l0_0.length c0_0, .int .i64 a0_1] 24 (0, 0)) (by (with_reducible repeat (first | refine blk_drewN ?_ _ | refine blk_drew ?_ | refine blk_alloc ?_ _)); exact BK361.out)) : gb361 ≠ gb403)); have n10_ := Aside0.mk ((by rw [hg]; exact Nat.ne_of_gt (blk_lt (g := gb361) (o := .cells #[.slice A0_0 l0_0.length c0_0, .int .i64 a0_1] 24 (0, 0)) (by (with_reducible repeat (first | refine blk_drewN ?_ _ | refine blk_drew ?_ | refine blk_alloc ?_ _)); exact BK361.out)) : gb403 ≠ gb361)); have n11_ := Aside0.mk ((by rw [hg]; exact Nat.ne_of_lt (blk_lt (g := gb375) (o := .cells #[.slice Ao53 x376000_2.length co53, .int .i64 x376001_2] 24 (0, 0)) (by (with_reducible repeat (first | refine blk_drewN ?_ _ | refine blk_drew ?_ | refine blk_alloc ?_ _)); exact BK375.out)) : gb375 ≠ gb403)); have n12_ := Aside0.mk ((by rw [hg]; exact Nat.ne_of_gt (blk_lt (g := gb375) (o := .cells #[.slice Ao53 x376000_2.length co53, .int .i64 x376001_2] 24 (0, 0)) (by (with_reducible repeat (first | refine blk_drewN ?_ _ | refine blk_drew ?_ | refine blk_alloc ?_ _)); exact BK375.out)) : gb403 ≠ gb375)); clear HO_376000; clear HO393; clear HO397; clear BK361; clear BK375; clear HB; have HO_376000 := n0_; have HO393 := n1_; have HO397 := n2_; have BK361 := n3_; have BK375 := n4_; have HB := n5_; have BK403 := n6_; have GW403 := n7_; have GE403 := n8_; have NB361_403 := n9_; have NB403_361 := n10_; have NB375_403 := n11_; have NB403_375 := n12_; clear n0_ n1_ n2_ n3_ n4_ n5_ n6_ n7_ n8_ n9_ n10_ n11_ n12_; clear hb hbox hg) | ((with_reducible refine gate_dst (N := 7) rfl ?_); (try (refine gate_guard (by rfl) ?_; dsimp only)); refine box_event ?hg (N := 7) ?hd (cs := #[.int .i64 0, .bool false, .bool false]) (t := 36) ?hr ?_; (case hd => rfl); (case hg => rfl); (case hr => first | (go_simp; done) | (go_simp; rfl)); intro gb404 hg w58 hbox hb; have n0_ := Aside0.mk (Kd.V_below (Kd.V_elderB (by (with_reducible repeat (first | apply Kd.V_alloc | apply Kd.V_drewN | apply Kd.V_drew)); exact HO_376000.out) gb404 (Nat.le_of_eq hg.symm)) hb); have n1_ := Aside0.mk (Kd.S_below (by (with_reducible repeat (first | apply Kd.S_alloc | apply Kd.S_drewN | apply Kd.S_drew)); exact HO393.out) hb); have n2_ := Aside0.mk (Kd.V_below (Kd.V_elderB (by (with_reducible repeat (first | apply Kd.V_alloc | apply Kd.V_drewN | apply Kd.V_drew)); exact HO397.out) gb404 (Nat.le_of_eq hg.symm)) hb); have n3_ := Aside0.mk (blk_below (g := gb361) (o := .cells #[.slice A0_0 l0_0.length c0_0, .int .i64 a0_1] 24 (0, 0)) (by (with_reducible repeat (first | refine blk_drewN ?_ _ | refine blk_drew ?_ | refine blk_alloc ?_ _)); exact BK361.out) hb); have n4_ := Aside0.mk (blk_below (g := gb375) (o := .cells #[.slice Ao53 x376000_2.length co53, .int .i64 x376001_2] 24 (0, 0)) (by (with_reducible repeat (first | refine blk_drewN ?_ _ | refine blk_drew ?_ | refine blk_alloc ?_ _)); exact BK375.out) hb); have n5_ := Aside0.mk (blk_below (g := gb403) (o := .cells #[.slice none 0 0, .int .i64 0] 24 (0, 0)) (by (with_reducible repeat (first | refine blk_drewN ?_ _ | refine blk_drew ?_ | refine blk_alloc ?_ _)); exact BK403.out) hb); have n6_ := Aside0.mk (below_step (by repeat (first | (with_reducible first | exact HB.out | apply below_alloc | apply pw_below_drewN | apply below_drew1 | refine below_set ?_ GE361.out | refine below_set ?_ GE375.out | refine below_set ?_ GE403.out) | exact HB.out)) hb); have n7_ := Aside0.mk (hbox); have n8_ := Aside0.mk ((by rw [hg]; exact (below_size (by repeat (first | (with_reducible first | exact HB.out | apply below_alloc | apply pw_below_drewN | apply below_drew1 | refine below_set ?_ GE361.out | refine below_set ?_ GE375.out | refine below_set ?_ GE403.out) | exact HB.out))) : w.heap.size ≤ gb404)); have n9_ := Aside0.mk ((by rw [hg]; exact (below_size (by repeat (first | (with_reducible first | exact HB.out | apply below_alloc | apply pw_below_drewN | apply below_drew1 | refine below_set ?_ GE361.out | refine below_set ?_ GE375.out | refine below_set ?_ GE403.out) | exact HB.out))) : w.heap.size ≤ gb404)); have n10_ := Aside0.mk ((by rw [hg]; exact Nat.ne_of_lt (blk_lt (g := gb361) (o := .cells #[.slice A0_0 l0_0.length c0_0, .int .i64 a0_1] 24 (0, 0)) (by (with_reducible repeat (first | refine blk_drewN ?_ _ | refine blk_drew ?_ | refine blk_alloc ?_ _)); exact BK361.out)) : gb361 ≠ gb404)); have n11_ := Aside0.mk ((by rw [hg]; exact Nat.ne_of_gt (blk_lt (g := gb361) (o := .cells #[.slice A0_0 l0_0.length c0_0, .int .i64 a0_1] 24 (0, 0)) (by (with_reducible repeat (first | refine blk_drewN ?_ _ | refine blk_drew ?_ | refine blk_alloc ?_ _)); exact BK361.out)) : gb404 ≠ gb361)); have n12_ := Aside0.mk ((by rw [hg]; exact Nat.ne_of_lt (blk_lt (g := gb375) (o := .cells #[.slice Ao53 x376000_2.length co53, .int .i64 x376001_2] 24 (0, 0)) (by (with_reducible repeat (first | refine blk_drewN ?_ _ | refine blk_drew ?_ | refine blk_alloc ?_ _)); exact BK375.out)) : gb375 ≠ gb404)); have n13_ := Aside0.mk ((by rw [hg]; exact Nat.ne_of_gt (blk_lt (g := gb375) (o := .cells #[.slice Ao53 x376000_2.length co53, .int .i64 x376001_2] 24 (0, 0)) (by (with_reducible repeat (first | refine blk_drewN ?_ _ | refine blk_drew ?_ | refine blk_alloc ?_ _)); exact BK375.out)) : gb404 ≠ gb375)); have n14_ := Aside0.mk ((by rw [hg]; exact Nat.ne_of_lt (blk_lt (g := gb403) (o := .cells #[.slice none 0 0, .int .i64 0] 24 (0, 0)) (by (with_reducible repeat (first | refine blk_drewN ?_ _ | refine blk_drew ?_ | refine blk_alloc ?_ _)); exact BK403.out)) : gb403 ≠ gb404)); have n15_ := Aside0.mk ((by rw [hg]; exact Nat.ne_of_gt (blk_lt (g := gb403) (o := .cells #[.slice none 0 0, .int .i64 0] 24 (0, 0)) (by (with_reducible repeat (first | refine blk_drewN ?_ _ | refine blk_drew ?_ | refine blk_alloc ?_ _)); exact BK403.out)) : gb404 ≠ gb403)); clear HO_376000; clear HO393; clear HO397; clear BK361; clear BK375; clear BK403; clear HB; have HO_376000 := n0_; have HO393 := n1_; have HO397 := n2_; have BK361 := n3_; have BK375 := n4_; have BK403 := n5_; have HB := n6_; have BK404 := n7_; have GW404 := n8_; have GE404 := n9_; have NB361_404 := n10_; have NB404_361 := n11_; have NB375_404 := n12_; have NB404_375 := n13_; have NB403_404 := n14_; have NB404_403 := n15_; clear n0_ n1_ n2_ n3_ n4_ n5_ n6_ n7_ n8_ n9_ n10_ n11_ n12_ n13_ n14_ n15_; clear hb hbox hg; obtain ⟨Ao59, co59, eo59⟩ := Kd.V_slice HO397.out; subst eo59; have hnb60 := NB403_361.out; have hnc60 := NB361_403.out; have hnb61 := NB403_375.out; have hnc61 := NB375_403.out; have hnb62 := NB403_404.out; have hnc62 := NB404_403.out; have hcz63_0 : w58.cell? ⟨gb403, 0, none⟩ = some (.slice none 0 0) := (blk_cell BK403.out 0).trans rfl; have hcz63_1 : w58.cell? ⟨gb403, 1, none⟩ = some (.int .i64 0) := (blk_cell BK403.out 1).trans rfl; have hfz63_0 := blk_frozen BK403.out 0; have hfz63_1 := blk_frozen BK403.out 1; have hnb64 := NB404_361.out; have hnc64 := NB361_404.out; have hnb65 := NB404_375.out; have hnc65 := NB375_404.out; have hcz66_0 : w58.cell? ⟨gb404, 0, none⟩ = some (.int .i64 0) := (blk_cell BK404.out 0).trans rfl; have hcz66_1 : w58.cell? ⟨gb404, 1, none⟩ = some (.bool false) := (blk_cell BK404.out 1).trans rfl; have hcz66_2 : w58.cell? ⟨gb404, 2, none⟩ = some (.bool false) := (blk_cell BK404.out 2).trans rfl; have hfz66_0 := blk_frozen BK404.out 0; have hfz66_1 := blk_frozen BK404.out 1; have hfz66_2 := blk_frozen BK404.out 2))
              (try simp only [Act.put, List.setIfInBounds_toArray, List.set_cons_zero, List.set_cons_succ])
              go_cut [77] (fun v77 wc => ∃ (kq : Nat) (x77_49 : Bool), v77 = .bool x77_49 ∧ Aside0 (trefoillaw18_LaneEnds.j2 kq x5_2 x77_49 x376000_2 x376001_2 t395 t398 t399 t400 t401 = some r) ∧ Aside0 (kq ≤ k2) ∧ Aside0 (Kd.V k27 27 wc w.heap.size (fun k_ => k_ ≠ gb361 ∧ k_ ≠ gb375 ∧ k_ ≠ gb403 ∧ k_ ≠ gb404) (.slice Ao53 x376000_2.length co53) x376000_2) ∧ Aside0 (Kd.V k27 27 wc w.heap.size (fun k_ => k_ ≠ gb361 ∧ k_ ≠ gb375 ∧ k_ ≠ gb403 ∧ k_ ≠ gb404) (.slice Ao59 t395.length co59) t395) ∧ Aside0 (wc.heap[gb361]? = some (.cells #[(.slice A0_0 l0_0.length c0_0), .int .i64 a0_1] 24 (0, 0))) ∧ Aside0 (wc.heap[gb375]? = some (.cells #[(.slice Ao53 x376000_2.length co53), .int .i64 x376001_2] 24 (0, 0))) ∧ Aside0 (wc.heap[gb403]? = some (.cells #[(.slice Ao59 t395.length co59), .int .i64 t398] 24 (0, 0))) ∧ Aside0 (wc.heap[gb404]? = some (.cells #[.int .i64 t399, .bool t400, .bool t401] 36 (0, 0))) ∧ Aside0 (Below w.heap.size w wc))
              case first =>
                have H := HC50.out
                clear HC50
                by_cases c67 : t402 = 0
                · rw [if_pos c67] at H
                  have c67b0 : (t402 == 0) = true := beq_iff_eq.mpr c67
                  have c67b1 : (t402 != 0) = false := bne_eq_false_iff_eq.mpr c67
                  clear c67
                  (first | rw [c67b0] | (simp only [i64_w, i32_w]; rw [c67b0]) | skip)
                  by_cases c68 : t399 < 0
                  · rw [if_pos c68] at H
                    have c68b0 : decide (t399 < 0) = true := decide_eq_true c68
                    clear c68
                    have H' := Aside0.mk H
                    clear H
                    have hnb69 := NB404_361.out
                    have hnc69 := NB361_404.out
                    have hnb70 := NB404_375.out
                    have hnc70 := NB375_404.out
                    have hnb71 := NB404_403.out
                    have hnc71 := NB403_404.out
                    have hcz72_0 : w58.cell? ⟨gb404, 0, none⟩ = some (.int .i64 0) := (blk_cell BK404.out 0).trans rfl
                    have hcz72_1 : w58.cell? ⟨gb404, 1, none⟩ = some (.bool false) := (blk_cell BK404.out 1).trans rfl
                    have hcz72_2 : w58.cell? ⟨gb404, 2, none⟩ = some (.bool false) := (blk_cell BK404.out 2).trans rfl
                    have hfz72_0 := blk_frozen BK404.out 0
                    have hfz72_1 := blk_frozen BK404.out 1
                    have hfz72_2 := blk_frozen BK404.out 2
                    go_wp2
                    go_meet
                    case rel => exact ⟨_, (true), (by first | rfl | (simp; done) | (simp [*]; done)), H', ⟨by have := HJ1.out; have := HK2.out; first | omega | exact Nat.le_refl _⟩, ⟨by (with_reducible repeat (first | apply Kd.V_alloc | apply Kd.V_drewN | apply Kd.V_drew)); exact Kd.V_mono (Kd.V_far (p := ⟨gb404, 2, none⟩) (Kd.V_far (p := ⟨gb404, 1, none⟩) (Kd.V_far (p := ⟨gb404, 0, none⟩) (Kd.V_far (p := ⟨gb403, 1, none⟩) (Kd.V_far (p := ⟨gb403, 0, none⟩) (Kd.V_mono (Kd.V_mono HO_376000.out (fun k_ hk => (⟨hk, hk.1.2⟩ : _ ∧ k_ ≠ gb403))) (fun k_ hk => (⟨hk, hk.1.2⟩ : _ ∧ k_ ≠ gb404))) (fun _ hk => hk.1.2) (.slice Ao59 t395.length co59)) (fun _ hk => hk.1.2) (.int .i64 t398)) (fun _ hk => hk.2) (.int .i64 t399)) (fun _ hk => hk.2) (.bool t400)) (fun _ hk => hk.2) (.bool t401)) (fun _ hk => ⟨hk.1.1.1.1.1.1, ⟨hk.1.1.1.1.1.2, ⟨hk.1.1.1.2, hk.1.1.2⟩⟩⟩)⟩, ⟨by (with_reducible repeat (first | apply Kd.V_alloc | apply Kd.V_drewN | apply Kd.V_drew)); exact Kd.V_mono (Kd.V_far (p := ⟨gb404, 2, none⟩) (Kd.V_far (p := ⟨gb404, 1, none⟩) (Kd.V_far (p := ⟨gb404, 0, none⟩) (Kd.V_far (p := ⟨gb403, 1, none⟩) (Kd.V_far (p := ⟨gb403, 0, none⟩) (Kd.V_mono (Kd.V_mono HO397.out (fun k_ hk => (⟨hk, hk.1.2⟩ : _ ∧ k_ ≠ gb403))) (fun k_ hk => (⟨hk, hk.1.2⟩ : _ ∧ k_ ≠ gb404))) (fun _ hk => hk.1.2) (.slice Ao59 t395.length co59)) (fun _ hk => hk.1.2) (.int .i64 t398)) (fun _ hk => hk.2) (.int .i64 t399)) (fun _ hk => hk.2) (.bool t400)) (fun _ hk => hk.2) (.bool t401)) (fun _ hk => ⟨hk.1.1.1.1.2.1, ⟨hk.1.1.1.1.2.2, ⟨hk.1.1.1.2, hk.1.1.2⟩⟩⟩)⟩, ⟨by (with_reducible repeat (first | refine blk_drewN ?_ _ | refine blk_drew ?_ | refine blk_alloc ?_ _)); refine blk_far ?_ NB361_404.out _; (with_reducible repeat (first | refine blk_drewN ?_ _ | refine blk_drew ?_ | refine blk_alloc ?_ _)); refine blk_far ?_ NB361_404.out _; (with_reducible repeat (first | refine blk_drewN ?_ _ | refine blk_drew ?_ | refine blk_alloc ?_ _)); refine blk_far ?_ NB361_404.out _; (with_reducible repeat (first | refine blk_drewN ?_ _ | refine blk_drew ?_ | refine blk_alloc ?_ _)); refine blk_far ?_ NB361_403.out _; (with_reducible repeat (first | refine blk_drewN ?_ _ | refine blk_drew ?_ | refine blk_alloc ?_ _)); refine blk_far ?_ NB361_403.out _; (with_reducible repeat (first | refine blk_drewN ?_ _ | refine blk_drew ?_ | refine blk_alloc ?_ _)); exact BK361.out⟩, ⟨by (with_reducible repeat (first | refine blk_drewN ?_ _ | refine blk_drew ?_ | refine blk_alloc ?_ _)); refine blk_far ?_ NB375_404.out _; (with_reducible repeat (first | refine blk_drewN ?_ _ | refine blk_drew ?_ | refine blk_alloc ?_ _)); refine blk_far ?_ NB375_404.out _; (with_reducible repeat (first | refine blk_drewN ?_ _ | refine blk_drew ?_ | refine blk_alloc ?_ _)); refine blk_far ?_ NB375_404.out _; (with_reducible repeat (first | refine blk_drewN ?_ _ | refine blk_drew ?_ | refine blk_alloc ?_ _)); refine blk_far ?_ NB375_403.out _; (with_reducible repeat (first | refine blk_drewN ?_ _ | refine blk_drew ?_ | refine blk_alloc ?_ _)); refine blk_far ?_ NB375_403.out _; (with_reducible repeat (first | refine blk_drewN ?_ _ | refine blk_drew ?_ | refine blk_alloc ?_ _)); exact BK375.out⟩, ⟨by (with_reducible repeat (first | refine blk_drewN ?_ _ | refine blk_drew ?_ | refine blk_alloc ?_ _)); refine blk_far ?_ NB403_404.out _; (with_reducible repeat (first | refine blk_drewN ?_ _ | refine blk_drew ?_ | refine blk_alloc ?_ _)); refine blk_far ?_ NB403_404.out _; (with_reducible repeat (first | refine blk_drewN ?_ _ | refine blk_drew ?_ | refine blk_alloc ?_ _)); refine blk_far ?_ NB403_404.out _; (with_reducible repeat (first | refine blk_drewN ?_ _ | refine blk_drew ?_ | refine blk_alloc ?_ _)); refine blk_put (cs := #[.slice Ao59 t395.length co59, .int .i64 0]) ?_ 1 _ rfl; (with_reducible repeat (first | refine blk_drewN ?_ _ | refine blk_drew ?_ | refine blk_alloc ?_ _)); refine blk_put (cs := #[.slice none 0 0, .int .i64 0]) ?_ 0 _ rfl; (with_reducible repeat (first | refine blk_drewN ?_ _ | refine blk_drew ?_ | refine blk_alloc ?_ _)); exact BK403.out⟩, ⟨by (with_reducible repeat (first | refine blk_drewN ?_ _ | refine blk_drew ?_ | refine blk_alloc ?_ _)); refine blk_put (cs := #[.int .i64 t399, .bool t400, .bool false]) ?_ 2 _ rfl; (with_reducible repeat (first | refine blk_drewN ?_ _ | refine blk_drew ?_ | refine blk_alloc ?_ _)); refine blk_put (cs := #[.int .i64 t399, .bool false, .bool false]) ?_ 1 _ rfl; (with_reducible repeat (first | refine blk_drewN ?_ _ | refine blk_drew ?_ | refine blk_alloc ?_ _)); refine blk_put (cs := #[.int .i64 0, .bool false, .bool false]) ?_ 0 _ rfl; (with_reducible repeat (first | refine blk_drewN ?_ _ | refine blk_drew ?_ | refine blk_alloc ?_ _)); refine blk_far ?_ NB404_403.out _; (with_reducible repeat (first | refine blk_drewN ?_ _ | refine blk_drew ?_ | refine blk_alloc ?_ _)); refine blk_far ?_ NB404_403.out _; (with_reducible repeat (first | refine blk_drewN ?_ _ | refine blk_drew ?_ | refine blk_alloc ?_ _)); exact BK404.out⟩, ⟨by repeat (first | (with_reducible first | exact HB.out | apply below_alloc | apply pw_below_drewN | apply below_drew1 | refine below_set ?_ GE361.out | refine below_set ?_ GE375.out | refine below_set ?_ GE403.out | refine below_set ?_ GE404.out) | exact HB.out)⟩⟩
                  · rw [if_neg c68] at H
                    have c68b0 : decide (t399 < 0) = false := decide_eq_false c68
                    clear c68
                    replace H := Option.bind_eq_some_iff.mp H
                    obtain ⟨t405, A730, H⟩ := H
                    replace H : (if t405 = (wrap64 (x5_2 - 1)) then (if x4_2 ≥ 0 then (if t399 = x4_2 then ((trefoillaw18_Own.f k2 t395 t398).bind fun bt406 => ((lane_Check.f k2 bt406.1 bt406.2).bind fun t410 => (trefoillaw18_LaneEnds.j2 k2 x5_2 (t410 != 0) x376000_2 x376001_2 t395 t398 t399 t400 t401))) else (trefoillaw18_LaneEnds.j2 k2 x5_2 true x376000_2 x376001_2 t395 t398 t399 t400 t401)) else ((trefoillaw18_Own.f k2 t395 t398).bind fun bt411 => ((lane_Check.f k2 bt411.1 bt411.2).bind fun t415 => (trefoillaw18_LaneEnds.j2 k2 x5_2 (t415 != 0) x376000_2 x376001_2 t395 t398 t399 t400 t401)))) else (trefoillaw18_LaneEnds.j2 k2 x5_2 true x376000_2 x376001_2 t395 t398 t399 t400 t401)) = some r := H
                    have A73 := Aside0.mk A730
                    clear A730
                    by_cases c74 : t405 = (wrap64 (x5_2 - 1))
                    · rw [if_pos c74] at H
                      have c74b0 : (t405 == (wrap64 (x5_2 - 1))) = true := beq_iff_eq.mpr c74
                      have c74b1 : (t405 != (wrap64 (x5_2 - 1))) = false := bne_eq_false_iff_eq.mpr c74
                      clear c74
                      by_cases c75 : x4_2 ≥ 0
                      · rw [if_pos c75] at H
                        have c75b0 : decide (0 ≤ x4_2) = true := decide_eq_true c75
                        clear c75
                        by_cases c76 : t399 = x4_2
                        · rw [if_pos c76] at H
                          have c76b0 : (t399 == x4_2) = true := beq_iff_eq.mpr c76
                          have c76b1 : (t399 != x4_2) = false := bne_eq_false_iff_eq.mpr c76
                          clear c76
                          replace H := Option.bind_eq_some_iff.mp H
                          obtain ⟨⟨t406, t409⟩, A770, H⟩ := H
                          replace H : ((lane_Check.f k2 t406 t409).bind fun t410 => (trefoillaw18_LaneEnds.j2 k2 x5_2 (t410 != 0) x376000_2 x376001_2 t395 t398 t399 t400 t401)) = some r := H
                          have A77 := Aside0.mk A770
                          clear A770
                          replace H := Option.bind_eq_some_iff.mp H
                          obtain ⟨t410, A780, H⟩ := H
                          replace H : (trefoillaw18_LaneEnds.j2 k2 x5_2 (t410 != 0) x376000_2 x376001_2 t395 t398 t399 t400 t401) = some r := H
                          have A78 := Aside0.mk A780
                          clear A780
                          have H' := Aside0.mk H
                          clear H
                          have hnb79 := NB404_361.out
                          have hnc79 := NB361_404.out
                          have hnb80 := NB404_375.out
                          have hnc80 := NB375_404.out
                          have hnb81 := NB404_403.out
                          have hnc81 := NB403_404.out
                          have hcz82_0 : w58.cell? ⟨gb404, 0, none⟩ = some (.int .i64 0) := (blk_cell BK404.out 0).trans rfl
                          have hcz82_1 : w58.cell? ⟨gb404, 1, none⟩ = some (.bool false) := (blk_cell BK404.out 1).trans rfl
                          have hcz82_2 : w58.cell? ⟨gb404, 2, none⟩ = some (.bool false) := (blk_cell BK404.out 2).trans rfl
                          have hfz82_0 := blk_frozen BK404.out 0
                          have hfz82_1 := blk_frozen BK404.out 1
                          have hfz82_2 := blk_frozen BK404.out 2
                          have hnb83 := NB403_361.out
                          have hnc83 := NB361_403.out
                          have hnb84 := NB403_375.out
                          have hnc84 := NB375_403.out
                          have hcz85_0 : w58.cell? ⟨gb403, 0, none⟩ = some (.slice none 0 0) := (blk_cell BK403.out 0).trans rfl
                          have hcz85_1 : w58.cell? ⟨gb403, 1, none⟩ = some (.int .i64 0) := (blk_cell BK403.out 1).trans rfl
                          have hfz85_0 := blk_frozen BK403.out 0
                          have hfz85_1 := blk_frozen BK403.out 1
                          go_wp2_with (first | (go_at_call 23; (with_reducible refine (trefoillaw18_much.calls k2 _ _ t395 t398 t405 _ ?side1 ?side2 A73.out).mono ?_); (case side1 => refine (Kd.V_reads' (e := 27) (base := w.heap.size) (ok := fun k_ => (((some k_ ≠ (.slice Ao55 t391.length co55 : Value).ownBlock ∧ (k_ ≠ gb361 ∧ k_ ≠ gb375)) ∧ k_ ≠ gb403) ∧ k_ ≠ gb404)) (n := t395.length) (c := co59) ?_).2.2; exact (by (with_reducible repeat (first | apply Kd.V_alloc | apply Kd.V_drewN | apply Kd.V_drew)); exact (Kd.V_mono (Kd.V_mono (Kd.V_far (p := ⟨gb404, 2, none⟩) (Kd.V_far (p := ⟨gb404, 1, none⟩) (Kd.V_far (p := ⟨gb404, 0, none⟩) (Kd.V_far (p := ⟨gb403, 1, none⟩) (Kd.V_far (p := ⟨gb403, 0, none⟩) (Kd.V_mono (Kd.V_mono HO397.out (fun k_ hk => (⟨hk, hk.1.2⟩ : _ ∧ k_ ≠ gb403))) (fun k_ hk => (⟨hk, hk.1.2⟩ : _ ∧ k_ ≠ gb404))) (fun _ hk => hk.1.2) (.slice Ao59 t395.length co59)) (fun _ hk => hk.1.2) (.int .i64 t398)) (fun _ hk => hk.2) (.int .i64 t399)) (fun _ hk => hk.2) (.bool t400)) (fun _ hk => hk.2) (.bool t401)) (fun _ h_ => h_.1)) (fun _ h_ => h_.1)))); (case side2 => exact (Kd.V_reads' HO397.out).2.1); rintro e w86 ⟨rfl, hb⟩; have n0_ := Aside0.mk (Kd.V_below (by (with_reducible repeat (first | apply Kd.V_alloc | apply Kd.V_drewN | apply Kd.V_drew)); exact (Kd.V_mono (Kd.V_mono (Kd.V_far (p := ⟨gb404, 2, none⟩) (Kd.V_far (p := ⟨gb404, 1, none⟩) (Kd.V_far (p := ⟨gb404, 0, none⟩) (Kd.V_far (p := ⟨gb403, 1, none⟩) (Kd.V_far (p := ⟨gb403, 0, none⟩) (Kd.V_mono (Kd.V_mono HO_376000.out (fun k_ hk => (⟨hk, hk.1.2⟩ : _ ∧ k_ ≠ gb403))) (fun k_ hk => (⟨hk, hk.1.2⟩ : _ ∧ k_ ≠ gb404))) (fun _ hk => hk.1.2) (.slice Ao59 t395.length co59)) (fun _ hk => hk.1.2) (.int .i64 t398)) (fun _ hk => hk.2) (.int .i64 t399)) (fun _ hk => hk.2) (.bool t400)) (fun _ hk => hk.2) (.bool t401)) (fun _ h_ => h_.1)) (fun _ h_ => h_.1))) hb); have n1_ := Aside0.mk (Kd.S_below (by (with_reducible repeat (first | apply Kd.S_alloc | apply Kd.S_drewN | apply Kd.S_drew)); exact (Kd.S_mono (Kd.S_mono (Kd.S_far (p := ⟨gb404, 2, none⟩) (Kd.S_far (p := ⟨gb404, 1, none⟩) (Kd.S_far (p := ⟨gb404, 0, none⟩) (Kd.S_far (p := ⟨gb403, 1, none⟩) (Kd.S_far (p := ⟨gb403, 0, none⟩) (Kd.S_types (Kd.S_types HO393.out BK403.out (by decide)) BK404.out (by decide)) (fun _ hk => hk.1.2) (.slice Ao59 t395.length co59)) (fun _ hk => hk.1.2) (.int .i64 t398)) (fun _ hk => hk.2) (.int .i64 t399)) (fun _ hk => hk.2) (.bool t400)) (fun _ hk => hk.2) (.bool t401)) (fun _ h_ => h_.1)) (fun _ h_ => h_.1))) hb); have n2_ := Aside0.mk (Kd.V_below (by (with_reducible repeat (first | apply Kd.V_alloc | apply Kd.V_drewN | apply Kd.V_drew)); exact (Kd.V_mono (Kd.V_mono (Kd.V_far (p := ⟨gb404, 2, none⟩) (Kd.V_far (p := ⟨gb404, 1, none⟩) (Kd.V_far (p := ⟨gb404, 0, none⟩) (Kd.V_far (p := ⟨gb403, 1, none⟩) (Kd.V_far (p := ⟨gb403, 0, none⟩) (Kd.V_mono (Kd.V_mono HO397.out (fun k_ hk => (⟨hk, hk.1.2⟩ : _ ∧ k_ ≠ gb403))) (fun k_ hk => (⟨hk, hk.1.2⟩ : _ ∧ k_ ≠ gb404))) (fun _ hk => hk.1.2) (.slice Ao59 t395.length co59)) (fun _ hk => hk.1.2) (.int .i64 t398)) (fun _ hk => hk.2) (.int .i64 t399)) (fun _ hk => hk.2) (.bool t400)) (fun _ hk => hk.2) (.bool t401)) (fun _ h_ => h_.1)) (fun _ h_ => h_.1))) hb); have n3_ := Aside0.mk (blk_below (g := gb361) (o := .cells #[.slice A0_0 l0_0.length c0_0, .int .i64 a0_1] 24 (0, 0)) (by (with_reducible repeat (first | refine blk_drewN ?_ _ | refine blk_drew ?_ | refine blk_alloc ?_ _)); refine blk_far ?_ NB361_404.out _; (with_reducible repeat (first | refine blk_drewN ?_ _ | refine blk_drew ?_ | refine blk_alloc ?_ _)); refine blk_far ?_ NB361_404.out _; (with_reducible repeat (first | refine blk_drewN ?_ _ | refine blk_drew ?_ | refine blk_alloc ?_ _)); refine blk_far ?_ NB361_404.out _; (with_reducible repeat (first | refine blk_drewN ?_ _ | refine blk_drew ?_ | refine blk_alloc ?_ _)); refine blk_far ?_ NB361_403.out _; (with_reducible repeat (first | refine blk_drewN ?_ _ | refine blk_drew ?_ | refine blk_alloc ?_ _)); refine blk_far ?_ NB361_403.out _; (with_reducible repeat (first | refine blk_drewN ?_ _ | refine blk_drew ?_ | refine blk_alloc ?_ _)); exact BK361.out) hb); have n4_ := Aside0.mk (blk_below (g := gb375) (o := .cells #[.slice Ao53 x376000_2.length co53, .int .i64 x376001_2] 24 (0, 0)) (by (with_reducible repeat (first | refine blk_drewN ?_ _ | refine blk_drew ?_ | refine blk_alloc ?_ _)); refine blk_far ?_ NB375_404.out _; (with_reducible repeat (first | refine blk_drewN ?_ _ | refine blk_drew ?_ | refine blk_alloc ?_ _)); refine blk_far ?_ NB375_404.out _; (with_reducible repeat (first | refine blk_drewN ?_ _ | refine blk_drew ?_ | refine blk_alloc ?_ _)); refine blk_far ?_ NB375_404.out _; (with_reducible repeat (first | refine blk_drewN ?_ _ | refine blk_drew ?_ | refine blk_alloc ?_ _)); refine blk_far ?_ NB375_403.out _; (with_reducible repeat (first | refine blk_drewN ?_ _ | refine blk_drew ?_ | refine blk_alloc ?_ _)); refine blk_far ?_ NB375_403.out _; (with_reducible repeat (first | refine blk_drewN ?_ _ | refine blk_drew ?_ | refine blk_alloc ?_ _)); exact BK375.out) hb); have n5_ := Aside0.mk (blk_below (g := gb403) (o := .cells #[.slice Ao59 t395.length co59, .int .i64 t398] 24 (0, 0)) (by (with_reducible repeat (first | refine blk_drewN ?_ _ | refine blk_drew ?_ | refine blk_alloc ?_ _)); refine blk_far ?_ NB403_404.out _; (with_reducible repeat (first | refine blk_drewN ?_ _ | refine blk_drew ?_ | refine blk_alloc ?_ _)); refine blk_far ?_ NB403_404.out _; (with_reducible repeat (first | refine blk_drewN ?_ _ | refine blk_drew ?_ | refine blk_alloc ?_ _)); refine blk_far ?_ NB403_404.out _; (with_reducible repeat (first | refine blk_drewN ?_ _ | refine blk_drew ?_ | refine blk_alloc ?_ _)); refine blk_put (cs := #[.slice Ao59 t395.length co59, .int .i64 0]) ?_ 1 _ rfl; (with_reducible repeat (first | refine blk_drewN ?_ _ | refine blk_drew ?_ | refine blk_alloc ?_ _)); refine blk_put (cs := #[.slice none 0 0, .int .i64 0]) ?_ 0 _ rfl; (with_reducible repeat (first | refine blk_drewN ?_ _ | refine blk_drew ?_ | refine blk_alloc ?_ _)); exact BK403.out) hb); have n6_ := Aside0.mk (blk_below (g := gb404) (o := .cells #[.int .i64 t399, .bool t400, .bool t401] 36 (0, 0)) (by (with_reducible repeat (first | refine blk_drewN ?_ _ | refine blk_drew ?_ | refine blk_alloc ?_ _)); refine blk_put (cs := #[.int .i64 t399, .bool t400, .bool false]) ?_ 2 _ rfl; (with_reducible repeat (first | refine blk_drewN ?_ _ | refine blk_drew ?_ | refine blk_alloc ?_ _)); refine blk_put (cs := #[.int .i64 t399, .bool false, .bool false]) ?_ 1 _ rfl; (with_reducible repeat (first | refine blk_drewN ?_ _ | refine blk_drew ?_ | refine blk_alloc ?_ _)); refine blk_put (cs := #[.int .i64 0, .bool false, .bool false]) ?_ 0 _ rfl; (with_reducible repeat (first | refine blk_drewN ?_ _ | refine blk_drew ?_ | refine blk_alloc ?_ _)); refine blk_far ?_ NB404_403.out _; (with_reducible repeat (first | refine blk_drewN ?_ _ | refine blk_drew ?_ | refine blk_alloc ?_ _)); refine blk_far ?_ NB404_403.out _; (with_reducible repeat (first | refine blk_drewN ?_ _ | refine blk_drew ?_ | refine blk_alloc ?_ _)); exact BK404.out) hb); have n7_ := Aside0.mk (below_step (by repeat (first | (with_reducible first | exact HB.out | apply below_alloc | apply pw_below_drewN | apply below_drew1 | refine below_set ?_ GE361.out | refine below_set ?_ GE375.out | refine below_set ?_ GE403.out | refine below_set ?_ GE404.out) | exact HB.out)) hb); clear HO_376000; clear HO393; clear HO397; clear BK361; clear BK375; clear BK403; clear BK404; clear HB; have HO_376000 := n0_; have HO393 := n1_; have HO397 := n2_; have BK361 := n3_; have BK375 := n4_; have BK403 := n5_; have BK404 := n6_; have HB := n7_; clear n0_ n1_ n2_ n3_ n4_ n5_ n6_ n7_; (try clear hb); (try clear hb2); (try clear hk); (try clear hi); have hcz87_0 : w86.cell? ⟨gb404, 0, none⟩ = some (.int .i64 t399) := (blk_cell BK404.out 0).trans rfl; have hcz87_1 : w86.cell? ⟨gb404, 1, none⟩ = some (.bool t400) := (blk_cell BK404.out 1).trans rfl; have hcz87_2 : w86.cell? ⟨gb404, 2, none⟩ = some (.bool t401) := (blk_cell BK404.out 2).trans rfl; have hfz87_0 := blk_frozen BK404.out 0; have hfz87_1 := blk_frozen BK404.out 1; have hfz87_2 := blk_frozen BK404.out 2; have hcz88_0 : w86.cell? ⟨gb403, 0, none⟩ = some (.slice Ao59 t395.length co59) := (blk_cell BK403.out 0).trans rfl; have hcz88_1 : w86.cell? ⟨gb403, 1, none⟩ = some (.int .i64 t398) := (blk_cell BK403.out 1).trans rfl; have hfz88_0 := blk_frozen BK403.out 0; have hfz88_1 := blk_frozen BK403.out 1) | (go_at_call 11; (with_reducible refine (trefoillaw18_Own.calls k2 _ _ t395 t398 t406 t409 _ ?side1 ?side2 A77.out).mono ?_); (case side1 => repeat (first | exact (Kd.V_reads' HO397.out).2.2 | (with_reducible refine Kd.C_alloc ?_ _) | (with_reducible refine Kd.C_drewN ?_ _) | (with_reducible refine Kd.C_drew ?_))); (case side2 => exact (Kd.V_reads' HO397.out).2.1); rintro e w89 ⟨v407, rfl, ho0, hb⟩; have n0_ := Aside0.mk (Kd.V_elder' (by (with_reducible repeat (first | apply Kd.V_alloc | apply Kd.V_drewN | apply Kd.V_drew)); exact HO_376000.out) (Kd.S_base ho0) hb); have n1_ := Aside0.mk (Kd.S_elder' (by (with_reducible repeat (first | apply Kd.S_alloc | apply Kd.S_drewN | apply Kd.S_drew)); exact HO393.out) (Kd.S_base ho0) hb); have n2_ := Aside0.mk (Kd.V_elder' (by (with_reducible repeat (first | apply Kd.V_alloc | apply Kd.V_drewN | apply Kd.V_drew)); exact HO397.out) (Kd.S_base ho0) hb); have n3_ := Aside0.mk (Kd.S_lower (Kd.S_new' ho0 (Kd.S_lt (by (with_reducible repeat (first | apply Kd.S_alloc | apply Kd.S_drewN | apply Kd.S_drew)); exact HO393.out))) (below_size (by repeat (first | (with_reducible first | exact HB.out | apply below_alloc | apply pw_below_drewN | apply below_drew1 | refine below_set ?_ GE361.out | refine below_set ?_ GE375.out | refine below_set ?_ GE403.out | refine below_set ?_ GE404.out) | exact HB.out)))); have n4_ := Aside0.mk (blk_below (g := gb361) (o := .cells #[.slice A0_0 l0_0.length c0_0, .int .i64 a0_1] 24 (0, 0)) (by (with_reducible repeat (first | refine blk_drewN ?_ _ | refine blk_drew ?_ | refine blk_alloc ?_ _)); exact BK361.out) hb); have n5_ := Aside0.mk (blk_below (g := gb375) (o := .cells #[.slice Ao53 x376000_2.length co53, .int .i64 x376001_2] 24 (0, 0)) (by (with_reducible repeat (first | refine blk_drewN ?_ _ | refine blk_drew ?_ | refine blk_alloc ?_ _)); exact BK375.out) hb); have n6_ := Aside0.mk (blk_below (g := gb403) (o := .cells #[.slice Ao59 t395.length co59, .int .i64 t398] 24 (0, 0)) (by (with_reducible repeat (first | refine blk_drewN ?_ _ | refine blk_drew ?_ | refine blk_alloc ?_ _)); exact BK403.out) hb); have n7_ := Aside0.mk (blk_below (g := gb404) (o := .cells #[.int .i64 t399, .bool t400, .bool t401] 36 (0, 0)) (by (with_reducible repeat (first | refine blk_drewN ?_ _ | refine blk_drew ?_ | refine blk_alloc ?_ _)); exact BK404.out) hb); have n8_ := Aside0.mk (below_step (by repeat (first | (with_reducible first | exact HB.out | apply below_alloc | apply pw_below_drewN | apply below_drew1 | refine below_set ?_ GE361.out | refine below_set ?_ GE375.out | refine below_set ?_ GE403.out | refine below_set ?_ GE404.out) | exact HB.out)) hb); clear HO_376000; clear HO393; clear HO397; clear BK361; clear BK375; clear BK403; clear BK404; clear HB; have HO_376000 := n0_; have HO393 := n1_; have HO397 := n2_; have HO408 := n3_; have BK361 := n4_; have BK375 := n5_; have BK403 := n6_; have BK404 := n7_; have HB := n8_; clear n0_ n1_ n2_ n3_ n4_ n5_ n6_ n7_ n8_; (try clear hb); (try clear hb2); (try clear hk); (try clear hi); (try clear ho0); obtain ⟨Ao90, co90, eo90⟩ := Kd.S_slice HO408.out; subst eo90) | (go_at_call 21; (with_reducible refine (lane_Check.calls k2 _ _ t406 t409 t410 _ ?side1 ?side2 A78.out).mono ?_); (case side1 => repeat (first | exact (Kd.S_reads' HO408.out).2.2 | (with_reducible refine Kd.C_alloc ?_ _) | (with_reducible refine Kd.C_drewN ?_ _) | (with_reducible refine Kd.C_drew ?_))); (case side2 => exact (Kd.S_reads' HO408.out).2.1); rintro e w91 ⟨rfl, hb⟩; have n0_ := Aside0.mk (Kd.V_below (by (with_reducible repeat (first | apply Kd.V_alloc | apply Kd.V_drewN | apply Kd.V_drew)); exact HO_376000.out) hb); have n1_ := Aside0.mk (Kd.S_below (by (with_reducible repeat (first | apply Kd.S_alloc | apply Kd.S_drewN | apply Kd.S_drew)); exact HO393.out) hb); have n2_ := Aside0.mk (Kd.V_below (by (with_reducible repeat (first | apply Kd.V_alloc | apply Kd.V_drewN | apply Kd.V_drew)); exact HO397.out) hb); have n3_ := Aside0.mk (Kd.S_below (by (with_reducible repeat (first | apply Kd.S_alloc | apply Kd.S_drewN | apply Kd.S_drew)); exact HO408.out) hb); have n4_ := Aside0.mk (blk_below (g := gb361) (o := .cells #[.slice A0_0 l0_0.length c0_0, .int .i64 a0_1] 24 (0, 0)) (by (with_reducible repeat (first | refine blk_drewN ?_ _ | refine blk_drew ?_ | refine blk_alloc ?_ _)); exact BK361.out) hb); have n5_ := Aside0.mk (blk_below (g := gb375) (o := .cells #[.slice Ao53 x376000_2.length co53, .int .i64 x376001_2] 24 (0, 0)) (by (with_reducible repeat (first | refine blk_drewN ?_ _ | refine blk_drew ?_ | refine blk_alloc ?_ _)); exact BK375.out) hb); have n6_ := Aside0.mk (blk_below (g := gb403) (o := .cells #[.slice Ao59 t395.length co59, .int .i64 t398] 24 (0, 0)) (by (with_reducible repeat (first | refine blk_drewN ?_ _ | refine blk_drew ?_ | refine blk_alloc ?_ _)); exact BK403.out) hb); have n7_ := Aside0.mk (blk_below (g := gb404) (o := .cells #[.int .i64 t399, .bool t400, .bool t401] 36 (0, 0)) (by (with_reducible repeat (first | refine blk_drewN ?_ _ | refine blk_drew ?_ | refine blk_alloc ?_ _)); exact BK404.out) hb); have n8_ := Aside0.mk (below_step (by repeat (first | (with_reducible first | exact HB.out | apply below_alloc | apply pw_below_drewN | apply below_drew1 | refine below_set ?_ GE361.out | refine below_set ?_ GE375.out | refine below_set ?_ GE403.out | refine below_set ?_ GE404.out) | exact HB.out)) hb); clear HO_376000; clear HO393; clear HO397; clear HO408; clear BK361; clear BK375; clear BK403; clear BK404; clear HB; have HO_376000 := n0_; have HO393 := n1_; have HO397 := n2_; have HO408 := n3_; have BK361 := n4_; have BK375 := n5_; have BK403 := n6_; have BK404 := n7_; have HB := n8_; clear n0_ n1_ n2_ n3_ n4_ n5_ n6_ n7_ n8_; (try clear hb); (try clear hb2); (try clear hk); (try clear hi)))
                          go_meet
                          case rel => exact ⟨_, ((t410 != 0)), (by first | rfl | (simp; done) | (simp [*]; done)), H', ⟨by have := HJ1.out; have := HK2.out; first | omega | exact Nat.le_refl _⟩, ⟨by (with_reducible repeat (first | apply Kd.V_alloc | apply Kd.V_drewN | apply Kd.V_drew)); exact Kd.V_mono HO_376000.out (fun _ hk => ⟨hk.1.1.1.1.1, ⟨hk.1.1.1.1.2, ⟨hk.1.1.2, hk.1.2⟩⟩⟩)⟩, ⟨by (with_reducible repeat (first | apply Kd.V_alloc | apply Kd.V_drewN | apply Kd.V_drew)); exact Kd.V_mono HO397.out (fun _ hk => ⟨hk.1.1.1.2.1, ⟨hk.1.1.1.2.2, ⟨hk.1.1.2, hk.1.2⟩⟩⟩)⟩, ⟨by (with_reducible repeat (first | refine blk_drewN ?_ _ | refine blk_drew ?_ | refine blk_alloc ?_ _)); exact BK361.out⟩, ⟨by (with_reducible repeat (first | refine blk_drewN ?_ _ | refine blk_drew ?_ | refine blk_alloc ?_ _)); exact BK375.out⟩, ⟨by (with_reducible repeat (first | refine blk_drewN ?_ _ | refine blk_drew ?_ | refine blk_alloc ?_ _)); exact BK403.out⟩, ⟨by (with_reducible repeat (first | refine blk_drewN ?_ _ | refine blk_drew ?_ | refine blk_alloc ?_ _)); exact BK404.out⟩, ⟨by repeat (first | (with_reducible first | exact HB.out | apply below_alloc | apply pw_below_drewN | apply below_drew1 | refine below_set ?_ GE361.out | refine below_set ?_ GE375.out | refine below_set ?_ GE403.out | refine below_set ?_ GE404.out) | exact HB.out)⟩⟩
                        · rw [if_neg c76] at H
                          have c76b0 : (t399 == x4_2) = false := beq_eq_false_iff_ne.mpr c76
                          have c76b1 : (t399 != x4_2) = true := bne_iff_ne.mpr c76
                          have H' := Aside0.mk H
                          clear H
                          have hnb92 := NB404_361.out
                          have hnc92 := NB361_404.out
                          have hnb93 := NB404_375.out
                          have hnc93 := NB375_404.out
                          have hnb94 := NB404_403.out
                          have hnc94 := NB403_404.out
                          have hcz95_0 : w58.cell? ⟨gb404, 0, none⟩ = some (.int .i64 0) := (blk_cell BK404.out 0).trans rfl
                          have hcz95_1 : w58.cell? ⟨gb404, 1, none⟩ = some (.bool false) := (blk_cell BK404.out 1).trans rfl
                          have hcz95_2 : w58.cell? ⟨gb404, 2, none⟩ = some (.bool false) := (blk_cell BK404.out 2).trans rfl
                          have hfz95_0 := blk_frozen BK404.out 0
                          have hfz95_1 := blk_frozen BK404.out 1
                          have hfz95_2 := blk_frozen BK404.out 2
                          have hnb96 := NB403_361.out
                          have hnc96 := NB361_403.out
                          have hnb97 := NB403_375.out
                          have hnc97 := NB375_403.out
                          have hcz98_0 : w58.cell? ⟨gb403, 0, none⟩ = some (.slice none 0 0) := (blk_cell BK403.out 0).trans rfl
                          have hcz98_1 : w58.cell? ⟨gb403, 1, none⟩ = some (.int .i64 0) := (blk_cell BK403.out 1).trans rfl
                          have hfz98_0 := blk_frozen BK403.out 0
                          have hfz98_1 := blk_frozen BK403.out 1
                          go_wp2_with (first | (go_at_call 23; (with_reducible refine (trefoillaw18_much.calls k2 _ _ t395 t398 t405 _ ?side1 ?side2 A73.out).mono ?_); (case side1 => refine (Kd.V_reads' (e := 27) (base := w.heap.size) (ok := fun k_ => (((some k_ ≠ (.slice Ao55 t391.length co55 : Value).ownBlock ∧ (k_ ≠ gb361 ∧ k_ ≠ gb375)) ∧ k_ ≠ gb403) ∧ k_ ≠ gb404)) (n := t395.length) (c := co59) ?_).2.2; exact (by (with_reducible repeat (first | apply Kd.V_alloc | apply Kd.V_drewN | apply Kd.V_drew)); exact (Kd.V_mono (Kd.V_mono (Kd.V_far (p := ⟨gb404, 2, none⟩) (Kd.V_far (p := ⟨gb404, 1, none⟩) (Kd.V_far (p := ⟨gb404, 0, none⟩) (Kd.V_far (p := ⟨gb403, 1, none⟩) (Kd.V_far (p := ⟨gb403, 0, none⟩) (Kd.V_mono (Kd.V_mono HO397.out (fun k_ hk => (⟨hk, hk.1.2⟩ : _ ∧ k_ ≠ gb403))) (fun k_ hk => (⟨hk, hk.1.2⟩ : _ ∧ k_ ≠ gb404))) (fun _ hk => hk.1.2) (.slice Ao59 t395.length co59)) (fun _ hk => hk.1.2) (.int .i64 t398)) (fun _ hk => hk.2) (.int .i64 t399)) (fun _ hk => hk.2) (.bool t400)) (fun _ hk => hk.2) (.bool t401)) (fun _ h_ => h_.1)) (fun _ h_ => h_.1)))); (case side2 => exact (Kd.V_reads' HO397.out).2.1); rintro e w99 ⟨rfl, hb⟩; have n0_ := Aside0.mk (Kd.V_below (by (with_reducible repeat (first | apply Kd.V_alloc | apply Kd.V_drewN | apply Kd.V_drew)); exact (Kd.V_mono (Kd.V_mono (Kd.V_far (p := ⟨gb404, 2, none⟩) (Kd.V_far (p := ⟨gb404, 1, none⟩) (Kd.V_far (p := ⟨gb404, 0, none⟩) (Kd.V_far (p := ⟨gb403, 1, none⟩) (Kd.V_far (p := ⟨gb403, 0, none⟩) (Kd.V_mono (Kd.V_mono HO_376000.out (fun k_ hk => (⟨hk, hk.1.2⟩ : _ ∧ k_ ≠ gb403))) (fun k_ hk => (⟨hk, hk.1.2⟩ : _ ∧ k_ ≠ gb404))) (fun _ hk => hk.1.2) (.slice Ao59 t395.length co59)) (fun _ hk => hk.1.2) (.int .i64 t398)) (fun _ hk => hk.2) (.int .i64 t399)) (fun _ hk => hk.2) (.bool t400)) (fun _ hk => hk.2) (.bool t401)) (fun _ h_ => h_.1)) (fun _ h_ => h_.1))) hb); have n1_ := Aside0.mk (Kd.S_below (by (with_reducible repeat (first | apply Kd.S_alloc | apply Kd.S_drewN | apply Kd.S_drew)); exact (Kd.S_mono (Kd.S_mono (Kd.S_far (p := ⟨gb404, 2, none⟩) (Kd.S_far (p := ⟨gb404, 1, none⟩) (Kd.S_far (p := ⟨gb404, 0, none⟩) (Kd.S_far (p := ⟨gb403, 1, none⟩) (Kd.S_far (p := ⟨gb403, 0, none⟩) (Kd.S_types (Kd.S_types HO393.out BK403.out (by decide)) BK404.out (by decide)) (fun _ hk => hk.1.2) (.slice Ao59 t395.length co59)) (fun _ hk => hk.1.2) (.int .i64 t398)) (fun _ hk => hk.2) (.int .i64 t399)) (fun _ hk => hk.2) (.bool t400)) (fun _ hk => hk.2) (.bool t401)) (fun _ h_ => h_.1)) (fun _ h_ => h_.1))) hb); have n2_ := Aside0.mk (Kd.V_below (by (with_reducible repeat (first | apply Kd.V_alloc | apply Kd.V_drewN | apply Kd.V_drew)); exact (Kd.V_mono (Kd.V_mono (Kd.V_far (p := ⟨gb404, 2, none⟩) (Kd.V_far (p := ⟨gb404, 1, none⟩) (Kd.V_far (p := ⟨gb404, 0, none⟩) (Kd.V_far (p := ⟨gb403, 1, none⟩) (Kd.V_far (p := ⟨gb403, 0, none⟩) (Kd.V_mono (Kd.V_mono HO397.out (fun k_ hk => (⟨hk, hk.1.2⟩ : _ ∧ k_ ≠ gb403))) (fun k_ hk => (⟨hk, hk.1.2⟩ : _ ∧ k_ ≠ gb404))) (fun _ hk => hk.1.2) (.slice Ao59 t395.length co59)) (fun _ hk => hk.1.2) (.int .i64 t398)) (fun _ hk => hk.2) (.int .i64 t399)) (fun _ hk => hk.2) (.bool t400)) (fun _ hk => hk.2) (.bool t401)) (fun _ h_ => h_.1)) (fun _ h_ => h_.1))) hb); have n3_ := Aside0.mk (blk_below (g := gb361) (o := .cells #[.slice A0_0 l0_0.length c0_0, .int .i64 a0_1] 24 (0, 0)) (by (with_reducible repeat (first | refine blk_drewN ?_ _ | refine blk_drew ?_ | refine blk_alloc ?_ _)); refine blk_far ?_ NB361_404.out _; (with_reducible repeat (first | refine blk_drewN ?_ _ | refine blk_drew ?_ | refine blk_alloc ?_ _)); refine blk_far ?_ NB361_404.out _; (with_reducible repeat (first | refine blk_drewN ?_ _ | refine blk_drew ?_ | refine blk_alloc ?_ _)); refine blk_far ?_ NB361_404.out _; (with_reducible repeat (first | refine blk_drewN ?_ _ | refine blk_drew ?_ | refine blk_alloc ?_ _)); refine blk_far ?_ NB361_403.out _; (with_reducible repeat (first | refine blk_drewN ?_ _ | refine blk_drew ?_ | refine blk_alloc ?_ _)); refine blk_far ?_ NB361_403.out _; (with_reducible repeat (first | refine blk_drewN ?_ _ | refine blk_drew ?_ | refine blk_alloc ?_ _)); exact BK361.out) hb); have n4_ := Aside0.mk (blk_below (g := gb375) (o := .cells #[.slice Ao53 x376000_2.length co53, .int .i64 x376001_2] 24 (0, 0)) (by (with_reducible repeat (first | refine blk_drewN ?_ _ | refine blk_drew ?_ | refine blk_alloc ?_ _)); refine blk_far ?_ NB375_404.out _; (with_reducible repeat (first | refine blk_drewN ?_ _ | refine blk_drew ?_ | refine blk_alloc ?_ _)); refine blk_far ?_ NB375_404.out _; (with_reducible repeat (first | refine blk_drewN ?_ _ | refine blk_drew ?_ | refine blk_alloc ?_ _)); refine blk_far ?_ NB375_404.out _; (with_reducible repeat (first | refine blk_drewN ?_ _ | refine blk_drew ?_ | refine blk_alloc ?_ _)); refine blk_far ?_ NB375_403.out _; (with_reducible repeat (first | refine blk_drewN ?_ _ | refine blk_drew ?_ | refine blk_alloc ?_ _)); refine blk_far ?_ NB375_403.out _; (with_reducible repeat (first | refine blk_drewN ?_ _ | refine blk_drew ?_ | refine blk_alloc ?_ _)); exact BK375.out) hb); have n5_ := Aside0.mk (blk_below (g := gb403) (o := .cells #[.slice Ao59 t395.length co59, .int .i64 t398] 24 (0, 0)) (by (with_reducible repeat (first | refine blk_drewN ?_ _ | refine blk_drew ?_ | refine blk_alloc ?_ _)); refine blk_far ?_ NB403_404.out _; (with_reducible repeat (first | refine blk_drewN ?_ _ | refine blk_drew ?_ | refine blk_alloc ?_ _)); refine blk_far ?_ NB403_404.out _; (with_reducible repeat (first | refine blk_drewN ?_ _ | refine blk_drew ?_ | refine blk_alloc ?_ _)); refine blk_far ?_ NB403_404.out _; (with_reducible repeat (first | refine blk_drewN ?_ _ | refine blk_drew ?_ | refine blk_alloc ?_ _)); refine blk_put (cs := #[.slice Ao59 t395.length co59, .int .i64 0]) ?_ 1 _ rfl; (with_reducible repeat (first | refine blk_drewN ?_ _ | refine blk_drew ?_ | refine blk_alloc ?_ _)); refine blk_put (cs := #[.slice none 0 0, .int .i64 0]) ?_ 0 _ rfl; (with_reducible repeat (first | refine blk_drewN ?_ _ | refine blk_drew ?_ | refine blk_alloc ?_ _)); exact BK403.out) hb); have n6_ := Aside0.mk (blk_below (g := gb404) (o := .cells #[.int .i64 t399, .bool t400, .bool t401] 36 (0, 0)) (by (with_reducible repeat (first | refine blk_drewN ?_ _ | refine blk_drew ?_ | refine blk_alloc ?_ _)); refine blk_put (cs := #[.int .i64 t399, .bool t400, .bool false]) ?_ 2 _ rfl; (with_reducible repeat (first | refine blk_drewN ?_ _ | refine blk_drew ?_ | refine blk_alloc ?_ _)); refine blk_put (cs := #[.int .i64 t399, .bool false, .bool false]) ?_ 1 _ rfl; (with_reducible repeat (first | refine blk_drewN ?_ _ | refine blk_drew ?_ | refine blk_alloc ?_ _)); refine blk_put (cs := #[.int .i64 0, .bool false, .bool false]) ?_ 0 _ rfl; (with_reducible repeat (first | refine blk_drewN ?_ _ | refine blk_drew ?_ | refine blk_alloc ?_ _)); refine blk_far ?_ NB404_403.out _; (with_reducible repeat (first | refine blk_drewN ?_ _ | refine blk_drew ?_ | refine blk_alloc ?_ _)); refine blk_far ?_ NB404_403.out _; (with_reducible repeat (first | refine blk_drewN ?_ _ | refine blk_drew ?_ | refine blk_alloc ?_ _)); exact BK404.out) hb); have n7_ := Aside0.mk (below_step (by repeat (first | (with_reducible first | exact HB.out | apply below_alloc | apply pw_below_drewN | apply below_drew1 | refine below_set ?_ GE361.out | refine below_set ?_ GE375.out | refine below_set ?_ GE403.out | refine below_set ?_ GE404.out) | exact HB.out)) hb); clear HO_376000; clear HO393; clear HO397; clear BK361; clear BK375; clear BK403; clear BK404; clear HB; have HO_376000 := n0_; have HO393 := n1_; have HO397 := n2_; have BK361 := n3_; have BK375 := n4_; have BK403 := n5_; have BK404 := n6_; have HB := n7_; clear n0_ n1_ n2_ n3_ n4_ n5_ n6_ n7_; (try clear hb); (try clear hb2); (try clear hk); (try clear hi); have hcz100_0 : w99.cell? ⟨gb404, 0, none⟩ = some (.int .i64 t399) := (blk_cell BK404.out 0).trans rfl; have hcz100_1 : w99.cell? ⟨gb404, 1, none⟩ = some (.bool t400) := (blk_cell BK404.out 1).trans rfl; have hcz100_2 : w99.cell? ⟨gb404, 2, none⟩ = some (.bool t401) := (blk_cell BK404.out 2).trans rfl; have hfz100_0 := blk_frozen BK404.out 0; have hfz100_1 := blk_frozen BK404.out 1; have hfz100_2 := blk_frozen BK404.out 2))
                          go_meet
                          case rel => exact ⟨_, (true), (by first | rfl | (simp; done) | (simp [*]; done)), H', ⟨by have := HJ1.out; have := HK2.out; first | omega | exact Nat.le_refl _⟩, ⟨by (with_reducible repeat (first | apply Kd.V_alloc | apply Kd.V_drewN | apply Kd.V_drew)); exact Kd.V_mono HO_376000.out (fun _ hk => ⟨hk.1.1.1.1, ⟨hk.1.1.1.2, ⟨hk.1.2, hk.2⟩⟩⟩)⟩, ⟨by (with_reducible repeat (first | apply Kd.V_alloc | apply Kd.V_drewN | apply Kd.V_drew)); exact Kd.V_mono HO397.out (fun _ hk => ⟨hk.1.1.2.1, ⟨hk.1.1.2.2, ⟨hk.1.2, hk.2⟩⟩⟩)⟩, ⟨by (with_reducible repeat (first | refine blk_drewN ?_ _ | refine blk_drew ?_ | refine blk_alloc ?_ _)); exact BK361.out⟩, ⟨by (with_reducible repeat (first | refine blk_drewN ?_ _ | refine blk_drew ?_ | refine blk_alloc ?_ _)); exact BK375.out⟩, ⟨by (with_reducible repeat (first | refine blk_drewN ?_ _ | refine blk_drew ?_ | refine blk_alloc ?_ _)); exact BK403.out⟩, ⟨by (with_reducible repeat (first | refine blk_drewN ?_ _ | refine blk_drew ?_ | refine blk_alloc ?_ _)); exact BK404.out⟩, ⟨by repeat (first | (with_reducible first | exact HB.out | apply below_alloc | apply pw_below_drewN | apply below_drew1 | refine below_set ?_ GE361.out | refine below_set ?_ GE375.out | refine below_set ?_ GE403.out | refine below_set ?_ GE404.out) | exact HB.out)⟩⟩
                      · rw [if_neg c75] at H
                        have c75b0 : decide (0 ≤ x4_2) = false := decide_eq_false c75
                        clear c75
                        replace H := Option.bind_eq_some_iff.mp H
                        obtain ⟨⟨t411, t414⟩, A1010, H⟩ := H
                        replace H : ((lane_Check.f k2 t411 t414).bind fun t415 => (trefoillaw18_LaneEnds.j2 k2 x5_2 (t415 != 0) x376000_2 x376001_2 t395 t398 t399 t400 t401)) = some r := H
                        have A101 := Aside0.mk A1010
                        clear A1010
                        replace H := Option.bind_eq_some_iff.mp H
                        obtain ⟨t415, A1020, H⟩ := H
                        replace H : (trefoillaw18_LaneEnds.j2 k2 x5_2 (t415 != 0) x376000_2 x376001_2 t395 t398 t399 t400 t401) = some r := H
                        have A102 := Aside0.mk A1020
                        clear A1020
                        have H' := Aside0.mk H
                        clear H
                        have hnb103 := NB404_361.out
                        have hnc103 := NB361_404.out
                        have hnb104 := NB404_375.out
                        have hnc104 := NB375_404.out
                        have hnb105 := NB404_403.out
                        have hnc105 := NB403_404.out
                        have hcz106_0 : w58.cell? ⟨gb404, 0, none⟩ = some (.int .i64 0) := (blk_cell BK404.out 0).trans rfl
                        have hcz106_1 : w58.cell? ⟨gb404, 1, none⟩ = some (.bool false) := (blk_cell BK404.out 1).trans rfl
                        have hcz106_2 : w58.cell? ⟨gb404, 2, none⟩ = some (.bool false) := (blk_cell BK404.out 2).trans rfl
                        have hfz106_0 := blk_frozen BK404.out 0
                        have hfz106_1 := blk_frozen BK404.out 1
                        have hfz106_2 := blk_frozen BK404.out 2
                        have hnb107 := NB403_361.out
                        have hnc107 := NB361_403.out
                        have hnb108 := NB403_375.out
                        have hnc108 := NB375_403.out
                        have hcz109_0 : w58.cell? ⟨gb403, 0, none⟩ = some (.slice none 0 0) := (blk_cell BK403.out 0).trans rfl
                        have hcz109_1 : w58.cell? ⟨gb403, 1, none⟩ = some (.int .i64 0) := (blk_cell BK403.out 1).trans rfl
                        have hfz109_0 := blk_frozen BK403.out 0
                        have hfz109_1 := blk_frozen BK403.out 1
                        go_wp2_with (first | (go_at_call 23; (with_reducible refine (trefoillaw18_much.calls k2 _ _ t395 t398 t405 _ ?side1 ?side2 A73.out).mono ?_); (case side1 => refine (Kd.V_reads' (e := 27) (base := w.heap.size) (ok := fun k_ => (((some k_ ≠ (.slice Ao55 t391.length co55 : Value).ownBlock ∧ (k_ ≠ gb361 ∧ k_ ≠ gb375)) ∧ k_ ≠ gb403) ∧ k_ ≠ gb404)) (n := t395.length) (c := co59) ?_).2.2; exact (by (with_reducible repeat (first | apply Kd.V_alloc | apply Kd.V_drewN | apply Kd.V_drew)); exact (Kd.V_mono (Kd.V_mono (Kd.V_far (p := ⟨gb404, 2, none⟩) (Kd.V_far (p := ⟨gb404, 1, none⟩) (Kd.V_far (p := ⟨gb404, 0, none⟩) (Kd.V_far (p := ⟨gb403, 1, none⟩) (Kd.V_far (p := ⟨gb403, 0, none⟩) (Kd.V_mono (Kd.V_mono HO397.out (fun k_ hk => (⟨hk, hk.1.2⟩ : _ ∧ k_ ≠ gb403))) (fun k_ hk => (⟨hk, hk.1.2⟩ : _ ∧ k_ ≠ gb404))) (fun _ hk => hk.1.2) (.slice Ao59 t395.length co59)) (fun _ hk => hk.1.2) (.int .i64 t398)) (fun _ hk => hk.2) (.int .i64 t399)) (fun _ hk => hk.2) (.bool t400)) (fun _ hk => hk.2) (.bool t401)) (fun _ h_ => h_.1)) (fun _ h_ => h_.1)))); (case side2 => exact (Kd.V_reads' HO397.out).2.1); rintro e w110 ⟨rfl, hb⟩; have n0_ := Aside0.mk (Kd.V_below (by (with_reducible repeat (first | apply Kd.V_alloc | apply Kd.V_drewN | apply Kd.V_drew)); exact (Kd.V_mono (Kd.V_mono (Kd.V_far (p := ⟨gb404, 2, none⟩) (Kd.V_far (p := ⟨gb404, 1, none⟩) (Kd.V_far (p := ⟨gb404, 0, none⟩) (Kd.V_far (p := ⟨gb403, 1, none⟩) (Kd.V_far (p := ⟨gb403, 0, none⟩) (Kd.V_mono (Kd.V_mono HO_376000.out (fun k_ hk => (⟨hk, hk.1.2⟩ : _ ∧ k_ ≠ gb403))) (fun k_ hk => (⟨hk, hk.1.2⟩ : _ ∧ k_ ≠ gb404))) (fun _ hk => hk.1.2) (.slice Ao59 t395.length co59)) (fun _ hk => hk.1.2) (.int .i64 t398)) (fun _ hk => hk.2) (.int .i64 t399)) (fun _ hk => hk.2) (.bool t400)) (fun _ hk => hk.2) (.bool t401)) (fun _ h_ => h_.1)) (fun _ h_ => h_.1))) hb); have n1_ := Aside0.mk (Kd.S_below (by (with_reducible repeat (first | apply Kd.S_alloc | apply Kd.S_drewN | apply Kd.S_drew)); exact (Kd.S_mono (Kd.S_mono (Kd.S_far (p := ⟨gb404, 2, none⟩) (Kd.S_far (p := ⟨gb404, 1, none⟩) (Kd.S_far (p := ⟨gb404, 0, none⟩) (Kd.S_far (p := ⟨gb403, 1, none⟩) (Kd.S_far (p := ⟨gb403, 0, none⟩) (Kd.S_types (Kd.S_types HO393.out BK403.out (by decide)) BK404.out (by decide)) (fun _ hk => hk.1.2) (.slice Ao59 t395.length co59)) (fun _ hk => hk.1.2) (.int .i64 t398)) (fun _ hk => hk.2) (.int .i64 t399)) (fun _ hk => hk.2) (.bool t400)) (fun _ hk => hk.2) (.bool t401)) (fun _ h_ => h_.1)) (fun _ h_ => h_.1))) hb); have n2_ := Aside0.mk (Kd.V_below (by (with_reducible repeat (first | apply Kd.V_alloc | apply Kd.V_drewN | apply Kd.V_drew)); exact (Kd.V_mono (Kd.V_mono (Kd.V_far (p := ⟨gb404, 2, none⟩) (Kd.V_far (p := ⟨gb404, 1, none⟩) (Kd.V_far (p := ⟨gb404, 0, none⟩) (Kd.V_far (p := ⟨gb403, 1, none⟩) (Kd.V_far (p := ⟨gb403, 0, none⟩) (Kd.V_mono (Kd.V_mono HO397.out (fun k_ hk => (⟨hk, hk.1.2⟩ : _ ∧ k_ ≠ gb403))) (fun k_ hk => (⟨hk, hk.1.2⟩ : _ ∧ k_ ≠ gb404))) (fun _ hk => hk.1.2) (.slice Ao59 t395.length co59)) (fun _ hk => hk.1.2) (.int .i64 t398)) (fun _ hk => hk.2) (.int .i64 t399)) (fun _ hk => hk.2) (.bool t400)) (fun _ hk => hk.2) (.bool t401)) (fun _ h_ => h_.1)) (fun _ h_ => h_.1))) hb); have n3_ := Aside0.mk (blk_below (g := gb361) (o := .cells #[.slice A0_0 l0_0.length c0_0, .int .i64 a0_1] 24 (0, 0)) (by (with_reducible repeat (first | refine blk_drewN ?_ _ | refine blk_drew ?_ | refine blk_alloc ?_ _)); refine blk_far ?_ NB361_404.out _; (with_reducible repeat (first | refine blk_drewN ?_ _ | refine blk_drew ?_ | refine blk_alloc ?_ _)); refine blk_far ?_ NB361_404.out _; (with_reducible repeat (first | refine blk_drewN ?_ _ | refine blk_drew ?_ | refine blk_alloc ?_ _)); refine blk_far ?_ NB361_404.out _; (with_reducible repeat (first | refine blk_drewN ?_ _ | refine blk_drew ?_ | refine blk_alloc ?_ _)); refine blk_far ?_ NB361_403.out _; (with_reducible repeat (first | refine blk_drewN ?_ _ | refine blk_drew ?_ | refine blk_alloc ?_ _)); refine blk_far ?_ NB361_403.out _; (with_reducible repeat (first | refine blk_drewN ?_ _ | refine blk_drew ?_ | refine blk_alloc ?_ _)); exact BK361.out) hb); have n4_ := Aside0.mk (blk_below (g := gb375) (o := .cells #[.slice Ao53 x376000_2.length co53, .int .i64 x376001_2] 24 (0, 0)) (by (with_reducible repeat (first | refine blk_drewN ?_ _ | refine blk_drew ?_ | refine blk_alloc ?_ _)); refine blk_far ?_ NB375_404.out _; (with_reducible repeat (first | refine blk_drewN ?_ _ | refine blk_drew ?_ | refine blk_alloc ?_ _)); refine blk_far ?_ NB375_404.out _; (with_reducible repeat (first | refine blk_drewN ?_ _ | refine blk_drew ?_ | refine blk_alloc ?_ _)); refine blk_far ?_ NB375_404.out _; (with_reducible repeat (first | refine blk_drewN ?_ _ | refine blk_drew ?_ | refine blk_alloc ?_ _)); refine blk_far ?_ NB375_403.out _; (with_reducible repeat (first | refine blk_drewN ?_ _ | refine blk_drew ?_ | refine blk_alloc ?_ _)); refine blk_far ?_ NB375_403.out _; (with_reducible repeat (first | refine blk_drewN ?_ _ | refine blk_drew ?_ | refine blk_alloc ?_ _)); exact BK375.out) hb); have n5_ := Aside0.mk (blk_below (g := gb403) (o := .cells #[.slice Ao59 t395.length co59, .int .i64 t398] 24 (0, 0)) (by (with_reducible repeat (first | refine blk_drewN ?_ _ | refine blk_drew ?_ | refine blk_alloc ?_ _)); refine blk_far ?_ NB403_404.out _; (with_reducible repeat (first | refine blk_drewN ?_ _ | refine blk_drew ?_ | refine blk_alloc ?_ _)); refine blk_far ?_ NB403_404.out _; (with_reducible repeat (first | refine blk_drewN ?_ _ | refine blk_drew ?_ | refine blk_alloc ?_ _)); refine blk_far ?_ NB403_404.out _; (with_reducible repeat (first | refine blk_drewN ?_ _ | refine blk_drew ?_ | refine blk_alloc ?_ _)); refine blk_put (cs := #[.slice Ao59 t395.length co59, .int .i64 0]) ?_ 1 _ rfl; (with_reducible repeat (first | refine blk_drewN ?_ _ | refine blk_drew ?_ | refine blk_alloc ?_ _)); refine blk_put (cs := #[.slice none 0 0, .int .i64 0]) ?_ 0 _ rfl; (with_reducible repeat (first | refine blk_drewN ?_ _ | refine blk_drew ?_ | refine blk_alloc ?_ _)); exact BK403.out) hb); have n6_ := Aside0.mk (blk_below (g := gb404) (o := .cells #[.int .i64 t399, .bool t400, .bool t401] 36 (0, 0)) (by (with_reducible repeat (first | refine blk_drewN ?_ _ | refine blk_drew ?_ | refine blk_alloc ?_ _)); refine blk_put (cs := #[.int .i64 t399, .bool t400, .bool false]) ?_ 2 _ rfl; (with_reducible repeat (first | refine blk_drewN ?_ _ | refine blk_drew ?_ | refine blk_alloc ?_ _)); refine blk_put (cs := #[.int .i64 t399, .bool false, .bool false]) ?_ 1 _ rfl; (with_reducible repeat (first | refine blk_drewN ?_ _ | refine blk_drew ?_ | refine blk_alloc ?_ _)); refine blk_put (cs := #[.int .i64 0, .bool false, .bool false]) ?_ 0 _ rfl; (with_reducible repeat (first | refine blk_drewN ?_ _ | refine blk_drew ?_ | refine blk_alloc ?_ _)); refine blk_far ?_ NB404_403.out _; (with_reducible repeat (first | refine blk_drewN ?_ _ | refine blk_drew ?_ | refine blk_alloc ?_ _)); refine blk_far ?_ NB404_403.out _; (with_reducible repeat (first | refine blk_drewN ?_ _ | refine blk_drew ?_ | refine blk_alloc ?_ _)); exact BK404.out) hb); have n7_ := Aside0.mk (below_step (by repeat (first | (with_reducible first | exact HB.out | apply below_alloc | apply pw_below_drewN | apply below_drew1 | refine below_set ?_ GE361.out | refine below_set ?_ GE375.out | refine below_set ?_ GE403.out | refine below_set ?_ GE404.out) | exact HB.out)) hb); clear HO_376000; clear HO393; clear HO397; clear BK361; clear BK375; clear BK403; clear BK404; clear HB; have HO_376000 := n0_; have HO393 := n1_; have HO397 := n2_; have BK361 := n3_; have BK375 := n4_; have BK403 := n5_; have BK404 := n6_; have HB := n7_; clear n0_ n1_ n2_ n3_ n4_ n5_ n6_ n7_; (try clear hb); (try clear hb2); (try clear hk); (try clear hi); have hcz111_0 : w110.cell? ⟨gb403, 0, none⟩ = some (.slice Ao59 t395.length co59) := (blk_cell BK403.out 0).trans rfl; have hcz111_1 : w110.cell? ⟨gb403, 1, none⟩ = some (.int .i64 t398) := (blk_cell BK403.out 1).trans rfl; have hfz111_0 := blk_frozen BK403.out 0; have hfz111_1 := blk_frozen BK403.out 1) | (go_at_call 11; (with_reducible refine (trefoillaw18_Own.calls k2 _ _ t395 t398 t411 t414 _ ?side1 ?side2 A101.out).mono ?_); (case side1 => repeat (first | exact (Kd.V_reads' HO397.out).2.2 | (with_reducible refine Kd.C_alloc ?_ _) | (with_reducible refine Kd.C_drewN ?_ _) | (with_reducible refine Kd.C_drew ?_))); (case side2 => exact (Kd.V_reads' HO397.out).2.1); rintro e w112 ⟨v412, rfl, ho0, hb⟩; have n0_ := Aside0.mk (Kd.V_elder' (by (with_reducible repeat (first | apply Kd.V_alloc | apply Kd.V_drewN | apply Kd.V_drew)); exact HO_376000.out) (Kd.S_base ho0) hb); have n1_ := Aside0.mk (Kd.S_elder' (by (with_reducible repeat (first | apply Kd.S_alloc | apply Kd.S_drewN | apply Kd.S_drew)); exact HO393.out) (Kd.S_base ho0) hb); have n2_ := Aside0.mk (Kd.V_elder' (by (with_reducible repeat (first | apply Kd.V_alloc | apply Kd.V_drewN | apply Kd.V_drew)); exact HO397.out) (Kd.S_base ho0) hb); have n3_ := Aside0.mk (Kd.S_lower (Kd.S_new' ho0 (Kd.S_lt (by (with_reducible repeat (first | apply Kd.S_alloc | apply Kd.S_drewN | apply Kd.S_drew)); exact HO393.out))) (below_size (by repeat (first | (with_reducible first | exact HB.out | apply below_alloc | apply pw_below_drewN | apply below_drew1 | refine below_set ?_ GE361.out | refine below_set ?_ GE375.out | refine below_set ?_ GE403.out | refine below_set ?_ GE404.out) | exact HB.out)))); have n4_ := Aside0.mk (blk_below (g := gb361) (o := .cells #[.slice A0_0 l0_0.length c0_0, .int .i64 a0_1] 24 (0, 0)) (by (with_reducible repeat (first | refine blk_drewN ?_ _ | refine blk_drew ?_ | refine blk_alloc ?_ _)); exact BK361.out) hb); have n5_ := Aside0.mk (blk_below (g := gb375) (o := .cells #[.slice Ao53 x376000_2.length co53, .int .i64 x376001_2] 24 (0, 0)) (by (with_reducible repeat (first | refine blk_drewN ?_ _ | refine blk_drew ?_ | refine blk_alloc ?_ _)); exact BK375.out) hb); have n6_ := Aside0.mk (blk_below (g := gb403) (o := .cells #[.slice Ao59 t395.length co59, .int .i64 t398] 24 (0, 0)) (by (with_reducible repeat (first | refine blk_drewN ?_ _ | refine blk_drew ?_ | refine blk_alloc ?_ _)); exact BK403.out) hb); have n7_ := Aside0.mk (blk_below (g := gb404) (o := .cells #[.int .i64 t399, .bool t400, .bool t401] 36 (0, 0)) (by (with_reducible repeat (first | refine blk_drewN ?_ _ | refine blk_drew ?_ | refine blk_alloc ?_ _)); exact BK404.out) hb); have n8_ := Aside0.mk (below_step (by repeat (first | (with_reducible first | exact HB.out | apply below_alloc | apply pw_below_drewN | apply below_drew1 | refine below_set ?_ GE361.out | refine below_set ?_ GE375.out | refine below_set ?_ GE403.out | refine below_set ?_ GE404.out) | exact HB.out)) hb); clear HO_376000; clear HO393; clear HO397; clear BK361; clear BK375; clear BK403; clear BK404; clear HB; have HO_376000 := n0_; have HO393 := n1_; have HO397 := n2_; have HO413 := n3_; have BK361 := n4_; have BK375 := n5_; have BK403 := n6_; have BK404 := n7_; have HB := n8_; clear n0_ n1_ n2_ n3_ n4_ n5_ n6_ n7_ n8_; (try clear hb); (try clear hb2); (try clear hk); (try clear hi); (try clear ho0); obtain ⟨Ao113, co113, eo113⟩ := Kd.S_slice HO413.out; subst eo113) | (go_at_call 21; (with_reducible refine (lane_Check.calls k2 _ _ t411 t414 t415 _ ?side1 ?side2 A102.out).mono ?_); (case side1 => repeat (first | exact (Kd.S_reads' HO413.out).2.2 | (with_reducible refine Kd.C_alloc ?_ _) | (with_reducible refine Kd.C_drewN ?_ _) | (with_reducible refine Kd.C_drew ?_))); (case side2 => exact (Kd.S_reads' HO413.out).2.1); rintro e w114 ⟨rfl, hb⟩; have n0_ := Aside0.mk (Kd.V_below (by (with_reducible repeat (first | apply Kd.V_alloc | apply Kd.V_drewN | apply Kd.V_drew)); exact HO_376000.out) hb); have n1_ := Aside0.mk (Kd.S_below (by (with_reducible repeat (first | apply Kd.S_alloc | apply Kd.S_drewN | apply Kd.S_drew)); exact HO393.out) hb); have n2_ := Aside0.mk (Kd.V_below (by (with_reducible repeat (first | apply Kd.V_alloc | apply Kd.V_drewN | apply Kd.V_drew)); exact HO397.out) hb); have n3_ := Aside0.mk (Kd.S_below (by (with_reducible repeat (first | apply Kd.S_alloc | apply Kd.S_drewN | apply Kd.S_drew)); exact HO413.out) hb); have n4_ := Aside0.mk (blk_below (g := gb361) (o := .cells #[.slice A0_0 l0_0.length c0_0, .int .i64 a0_1] 24 (0, 0)) (by (with_reducible repeat (first | refine blk_drewN ?_ _ | refine blk_drew ?_ | refine blk_alloc ?_ _)); exact BK361.out) hb); have n5_ := Aside0.mk (blk_below (g := gb375) (o := .cells #[.slice Ao53 x376000_2.length co53, .int .i64 x376001_2] 24 (0, 0)) (by (with_reducible repeat (first | refine blk_drewN ?_ _ | refine blk_drew ?_ | refine blk_alloc ?_ _)); exact BK375.out) hb); have n6_ := Aside0.mk (blk_below (g := gb403) (o := .cells #[.slice Ao59 t395.length co59, .int .i64 t398] 24 (0, 0)) (by (with_reducible repeat (first | refine blk_drewN ?_ _ | refine blk_drew ?_ | refine blk_alloc ?_ _)); exact BK403.out) hb); have n7_ := Aside0.mk (blk_below (g := gb404) (o := .cells #[.int .i64 t399, .bool t400, .bool t401] 36 (0, 0)) (by (with_reducible repeat (first | refine blk_drewN ?_ _ | refine blk_drew ?_ | refine blk_alloc ?_ _)); exact BK404.out) hb); have n8_ := Aside0.mk (below_step (by repeat (first | (with_reducible first | exact HB.out | apply below_alloc | apply pw_below_drewN | apply below_drew1 | refine below_set ?_ GE361.out | refine below_set ?_ GE375.out | refine below_set ?_ GE403.out | refine below_set ?_ GE404.out) | exact HB.out)) hb); clear HO_376000; clear HO393; clear HO397; clear HO413; clear BK361; clear BK375; clear BK403; clear BK404; clear HB; have HO_376000 := n0_; have HO393 := n1_; have HO397 := n2_; have HO413 := n3_; have BK361 := n4_; have BK375 := n5_; have BK403 := n6_; have BK404 := n7_; have HB := n8_; clear n0_ n1_ n2_ n3_ n4_ n5_ n6_ n7_ n8_; (try clear hb); (try clear hb2); (try clear hk); (try clear hi)))
                        go_meet
                        case rel => exact ⟨_, ((t415 != 0)), (by first | rfl | (simp; done) | (simp [*]; done)), H', ⟨by have := HJ1.out; have := HK2.out; first | omega | exact Nat.le_refl _⟩, ⟨by (with_reducible repeat (first | apply Kd.V_alloc | apply Kd.V_drewN | apply Kd.V_drew)); exact Kd.V_mono HO_376000.out (fun _ hk => ⟨hk.1.1.1.1.1, ⟨hk.1.1.1.1.2, ⟨hk.1.1.2, hk.1.2⟩⟩⟩)⟩, ⟨by (with_reducible repeat (first | apply Kd.V_alloc | apply Kd.V_drewN | apply Kd.V_drew)); exact Kd.V_mono HO397.out (fun _ hk => ⟨hk.1.1.1.2.1, ⟨hk.1.1.1.2.2, ⟨hk.1.1.2, hk.1.2⟩⟩⟩)⟩, ⟨by (with_reducible repeat (first | refine blk_drewN ?_ _ | refine blk_drew ?_ | refine blk_alloc ?_ _)); exact BK361.out⟩, ⟨by (with_reducible repeat (first | refine blk_drewN ?_ _ | refine blk_drew ?_ | refine blk_alloc ?_ _)); exact BK375.out⟩, ⟨by (with_reducible repeat (first | refine blk_drewN ?_ _ | refine blk_drew ?_ | refine blk_alloc ?_ _)); exact BK403.out⟩, ⟨by (with_reducible repeat (first | refine blk_drewN ?_ _ | refine blk_drew ?_ | refine blk_alloc ?_ _)); exact BK404.out⟩, ⟨by repeat (first | (with_reducible first | exact HB.out | apply below_alloc | apply pw_below_drewN | apply below_drew1 | refine below_set ?_ GE361.out | refine below_set ?_ GE375.out | refine below_set ?_ GE403.out | refine below_set ?_ GE404.out) | exact HB.out)⟩⟩
                    · rw [if_neg c74] at H
                      have c74b0 : (t405 == (wrap64 (x5_2 - 1))) = false := beq_eq_false_iff_ne.mpr c74
                      have c74b1 : (t405 != (wrap64 (x5_2 - 1))) = true := bne_iff_ne.mpr c74
                      have H' := Aside0.mk H
                      clear H
                      have hnb115 := NB404_361.out
                      have hnc115 := NB361_404.out
                      have hnb116 := NB404_375.out
                      have hnc116 := NB375_404.out
                      have hnb117 := NB404_403.out
                      have hnc117 := NB403_404.out
                      have hcz118_0 : w58.cell? ⟨gb404, 0, none⟩ = some (.int .i64 0) := (blk_cell BK404.out 0).trans rfl
                      have hcz118_1 : w58.cell? ⟨gb404, 1, none⟩ = some (.bool false) := (blk_cell BK404.out 1).trans rfl
                      have hcz118_2 : w58.cell? ⟨gb404, 2, none⟩ = some (.bool false) := (blk_cell BK404.out 2).trans rfl
                      have hfz118_0 := blk_frozen BK404.out 0
                      have hfz118_1 := blk_frozen BK404.out 1
                      have hfz118_2 := blk_frozen BK404.out 2
                      have hnb119 := NB403_361.out
                      have hnc119 := NB361_403.out
                      have hnb120 := NB403_375.out
                      have hnc120 := NB375_403.out
                      have hcz121_0 : w58.cell? ⟨gb403, 0, none⟩ = some (.slice none 0 0) := (blk_cell BK403.out 0).trans rfl
                      have hcz121_1 : w58.cell? ⟨gb403, 1, none⟩ = some (.int .i64 0) := (blk_cell BK403.out 1).trans rfl
                      have hfz121_0 := blk_frozen BK403.out 0
                      have hfz121_1 := blk_frozen BK403.out 1
                      go_wp2_with (first | (go_at_call 23; (with_reducible refine (trefoillaw18_much.calls k2 _ _ t395 t398 t405 _ ?side1 ?side2 A73.out).mono ?_); (case side1 => refine (Kd.V_reads' (e := 27) (base := w.heap.size) (ok := fun k_ => (((some k_ ≠ (.slice Ao55 t391.length co55 : Value).ownBlock ∧ (k_ ≠ gb361 ∧ k_ ≠ gb375)) ∧ k_ ≠ gb403) ∧ k_ ≠ gb404)) (n := t395.length) (c := co59) ?_).2.2; exact (by (with_reducible repeat (first | apply Kd.V_alloc | apply Kd.V_drewN | apply Kd.V_drew)); exact (Kd.V_mono (Kd.V_mono (Kd.V_far (p := ⟨gb404, 2, none⟩) (Kd.V_far (p := ⟨gb404, 1, none⟩) (Kd.V_far (p := ⟨gb404, 0, none⟩) (Kd.V_far (p := ⟨gb403, 1, none⟩) (Kd.V_far (p := ⟨gb403, 0, none⟩) (Kd.V_mono (Kd.V_mono HO397.out (fun k_ hk => (⟨hk, hk.1.2⟩ : _ ∧ k_ ≠ gb403))) (fun k_ hk => (⟨hk, hk.1.2⟩ : _ ∧ k_ ≠ gb404))) (fun _ hk => hk.1.2) (.slice Ao59 t395.length co59)) (fun _ hk => hk.1.2) (.int .i64 t398)) (fun _ hk => hk.2) (.int .i64 t399)) (fun _ hk => hk.2) (.bool t400)) (fun _ hk => hk.2) (.bool t401)) (fun _ h_ => h_.1)) (fun _ h_ => h_.1)))); (case side2 => exact (Kd.V_reads' HO397.out).2.1); rintro e w122 ⟨rfl, hb⟩; have n0_ := Aside0.mk (Kd.V_below (by (with_reducible repeat (first | apply Kd.V_alloc | apply Kd.V_drewN | apply Kd.V_drew)); exact (Kd.V_mono (Kd.V_mono (Kd.V_far (p := ⟨gb404, 2, none⟩) (Kd.V_far (p := ⟨gb404, 1, none⟩) (Kd.V_far (p := ⟨gb404, 0, none⟩) (Kd.V_far (p := ⟨gb403, 1, none⟩) (Kd.V_far (p := ⟨gb403, 0, none⟩) (Kd.V_mono (Kd.V_mono HO_376000.out (fun k_ hk => (⟨hk, hk.1.2⟩ : _ ∧ k_ ≠ gb403))) (fun k_ hk => (⟨hk, hk.1.2⟩ : _ ∧ k_ ≠ gb404))) (fun _ hk => hk.1.2) (.slice Ao59 t395.length co59)) (fun _ hk => hk.1.2) (.int .i64 t398)) (fun _ hk => hk.2) (.int .i64 t399)) (fun _ hk => hk.2) (.bool t400)) (fun _ hk => hk.2) (.bool t401)) (fun _ h_ => h_.1)) (fun _ h_ => h_.1))) hb); have n1_ := Aside0.mk (Kd.S_below (by (with_reducible repeat (first | apply Kd.S_alloc | apply Kd.S_drewN | apply Kd.S_drew)); exact (Kd.S_mono (Kd.S_mono (Kd.S_far (p := ⟨gb404, 2, none⟩) (Kd.S_far (p := ⟨gb404, 1, none⟩) (Kd.S_far (p := ⟨gb404, 0, none⟩) (Kd.S_far (p := ⟨gb403, 1, none⟩) (Kd.S_far (p := ⟨gb403, 0, none⟩) (Kd.S_types (Kd.S_types HO393.out BK403.out (by decide)) BK404.out (by decide)) (fun _ hk => hk.1.2) (.slice Ao59 t395.length co59)) (fun _ hk => hk.1.2) (.int .i64 t398)) (fun _ hk => hk.2) (.int .i64 t399)) (fun _ hk => hk.2) (.bool t400)) (fun _ hk => hk.2) (.bool t401)) (fun _ h_ => h_.1)) (fun _ h_ => h_.1))) hb); have n2_ := Aside0.mk (Kd.V_below (by (with_reducible repeat (first | apply Kd.V_alloc | apply Kd.V_drewN | apply Kd.V_drew)); exact (Kd.V_mono (Kd.V_mono (Kd.V_far (p := ⟨gb404, 2, none⟩) (Kd.V_far (p := ⟨gb404, 1, none⟩) (Kd.V_far (p := ⟨gb404, 0, none⟩) (Kd.V_far (p := ⟨gb403, 1, none⟩) (Kd.V_far (p := ⟨gb403, 0, none⟩) (Kd.V_mono (Kd.V_mono HO397.out (fun k_ hk => (⟨hk, hk.1.2⟩ : _ ∧ k_ ≠ gb403))) (fun k_ hk => (⟨hk, hk.1.2⟩ : _ ∧ k_ ≠ gb404))) (fun _ hk => hk.1.2) (.slice Ao59 t395.length co59)) (fun _ hk => hk.1.2) (.int .i64 t398)) (fun _ hk => hk.2) (.int .i64 t399)) (fun _ hk => hk.2) (.bool t400)) (fun _ hk => hk.2) (.bool t401)) (fun _ h_ => h_.1)) (fun _ h_ => h_.1))) hb); have n3_ := Aside0.mk (blk_below (g := gb361) (o := .cells #[.slice A0_0 l0_0.length c0_0, .int .i64 a0_1] 24 (0, 0)) (by (with_reducible repeat (first | refine blk_drewN ?_ _ | refine blk_drew ?_ | refine blk_alloc ?_ _)); refine blk_far ?_ NB361_404.out _; (with_reducible repeat (first | refine blk_drewN ?_ _ | refine blk_drew ?_ | refine blk_alloc ?_ _)); refine blk_far ?_ NB361_404.out _; (with_reducible repeat (first | refine blk_drewN ?_ _ | refine blk_drew ?_ | refine blk_alloc ?_ _)); refine blk_far ?_ NB361_404.out _; (with_reducible repeat (first | refine blk_drewN ?_ _ | refine blk_drew ?_ | refine blk_alloc ?_ _)); refine blk_far ?_ NB361_403.out _; (with_reducible repeat (first | refine blk_drewN ?_ _ | refine blk_drew ?_ | refine blk_alloc ?_ _)); refine blk_far ?_ NB361_403.out _; (with_reducible repeat (first | refine blk_drewN ?_ _ | refine blk_drew ?_ | refine blk_alloc ?_ _)); exact BK361.out) hb); have n4_ := Aside0.mk (blk_below (g := gb375) (o := .cells #[.slice Ao53 x376000_2.length co53, .int .i64 x376001_2] 24 (0, 0)) (by (with_reducible repeat (first | refine blk_drewN ?_ _ | refine blk_drew ?_ | refine blk_alloc ?_ _)); refine blk_far ?_ NB375_404.out _; (with_reducible repeat (first | refine blk_drewN ?_ _ | refine blk_drew ?_ | refine blk_alloc ?_ _)); refine blk_far ?_ NB375_404.out _; (with_reducible repeat (first | refine blk_drewN ?_ _ | refine blk_drew ?_ | refine blk_alloc ?_ _)); refine blk_far ?_ NB375_404.out _; (with_reducible repeat (first | refine blk_drewN ?_ _ | refine blk_drew ?_ | refine blk_alloc ?_ _)); refine blk_far ?_ NB375_403.out _; (with_reducible repeat (first | refine blk_drewN ?_ _ | refine blk_drew ?_ | refine blk_alloc ?_ _)); refine blk_far ?_ NB375_403.out _; (with_reducible repeat (first | refine blk_drewN ?_ _ | refine blk_drew ?_ | refine blk_alloc ?_ _)); exact BK375.out) hb); have n5_ := Aside0.mk (blk_below (g := gb403) (o := .cells #[.slice Ao59 t395.length co59, .int .i64 t398] 24 (0, 0)) (by (with_reducible repeat (first | refine blk_drewN ?_ _ | refine blk_drew ?_ | refine blk_alloc ?_ _)); refine blk_far ?_ NB403_404.out _; (with_reducible repeat (first | refine blk_drewN ?_ _ | refine blk_drew ?_ | refine blk_alloc ?_ _)); refine blk_far ?_ NB403_404.out _; (with_reducible repeat (first | refine blk_drewN ?_ _ | refine blk_drew ?_ | refine blk_alloc ?_ _)); refine blk_far ?_ NB403_404.out _; (with_reducible repeat (first | refine blk_drewN ?_ _ | refine blk_drew ?_ | refine blk_alloc ?_ _)); refine blk_put (cs := #[.slice Ao59 t395.length co59, .int .i64 0]) ?_ 1 _ rfl; (with_reducible repeat (first | refine blk_drewN ?_ _ | refine blk_drew ?_ | refine blk_alloc ?_ _)); refine blk_put (cs := #[.slice none 0 0, .int .i64 0]) ?_ 0 _ rfl; (with_reducible repeat (first | refine blk_drewN ?_ _ | refine blk_drew ?_ | refine blk_alloc ?_ _)); exact BK403.out) hb); have n6_ := Aside0.mk (blk_below (g := gb404) (o := .cells #[.int .i64 t399, .bool t400, .bool t401] 36 (0, 0)) (by (with_reducible repeat (first | refine blk_drewN ?_ _ | refine blk_drew ?_ | refine blk_alloc ?_ _)); refine blk_put (cs := #[.int .i64 t399, .bool t400, .bool false]) ?_ 2 _ rfl; (with_reducible repeat (first | refine blk_drewN ?_ _ | refine blk_drew ?_ | refine blk_alloc ?_ _)); refine blk_put (cs := #[.int .i64 t399, .bool false, .bool false]) ?_ 1 _ rfl; (with_reducible repeat (first | refine blk_drewN ?_ _ | refine blk_drew ?_ | refine blk_alloc ?_ _)); refine blk_put (cs := #[.int .i64 0, .bool false, .bool false]) ?_ 0 _ rfl; (with_reducible repeat (first | refine blk_drewN ?_ _ | refine blk_drew ?_ | refine blk_alloc ?_ _)); refine blk_far ?_ NB404_403.out _; (with_reducible repeat (first | refine blk_drewN ?_ _ | refine blk_drew ?_ | refine blk_alloc ?_ _)); refine blk_far ?_ NB404_403.out _; (with_reducible repeat (first | refine blk_drewN ?_ _ | refine blk_drew ?_ | refine blk_alloc ?_ _)); exact BK404.out) hb); have n7_ := Aside0.mk (below_step (by repeat (first | (with_reducible first | exact HB.out | apply below_alloc | apply pw_below_drewN | apply below_drew1 | refine below_set ?_ GE361.out | refine below_set ?_ GE375.out | refine below_set ?_ GE403.out | refine below_set ?_ GE404.out) | exact HB.out)) hb); clear HO_376000; clear HO393; clear HO397; clear BK361; clear BK375; clear BK403; clear BK404; clear HB; have HO_376000 := n0_; have HO393 := n1_; have HO397 := n2_; have BK361 := n3_; have BK375 := n4_; have BK403 := n5_; have BK404 := n6_; have HB := n7_; clear n0_ n1_ n2_ n3_ n4_ n5_ n6_ n7_; (try clear hb); (try clear hb2); (try clear hk); (try clear hi)))
                      go_meet
                      case rel => exact ⟨_, (true), (by first | rfl | (simp; done) | (simp [*]; done)), H', ⟨by have := HJ1.out; have := HK2.out; first | omega | exact Nat.le_refl _⟩, ⟨by (with_reducible repeat (first | apply Kd.V_alloc | apply Kd.V_drewN | apply Kd.V_drew)); exact Kd.V_mono HO_376000.out (fun _ hk => ⟨hk.1.1.1.1, ⟨hk.1.1.1.2, ⟨hk.1.2, hk.2⟩⟩⟩)⟩, ⟨by (with_reducible repeat (first | apply Kd.V_alloc | apply Kd.V_drewN | apply Kd.V_drew)); exact Kd.V_mono HO397.out (fun _ hk => ⟨hk.1.1.2.1, ⟨hk.1.1.2.2, ⟨hk.1.2, hk.2⟩⟩⟩)⟩, ⟨by (with_reducible repeat (first | refine blk_drewN ?_ _ | refine blk_drew ?_ | refine blk_alloc ?_ _)); exact BK361.out⟩, ⟨by (with_reducible repeat (first | refine blk_drewN ?_ _ | refine blk_drew ?_ | refine blk_alloc ?_ _)); exact BK375.out⟩, ⟨by (with_reducible repeat (first | refine blk_drewN ?_ _ | refine blk_drew ?_ | refine blk_alloc ?_ _)); exact BK403.out⟩, ⟨by (with_reducible repeat (first | refine blk_drewN ?_ _ | refine blk_drew ?_ | refine blk_alloc ?_ _)); exact BK404.out⟩, ⟨by repeat (first | (with_reducible first | exact HB.out | apply below_alloc | apply pw_below_drewN | apply below_drew1 | refine below_set ?_ GE361.out | refine below_set ?_ GE375.out | refine below_set ?_ GE403.out | refine below_set ?_ GE404.out) | exact HB.out)⟩⟩
                · rw [if_neg c67] at H
                  have c67b0 : (t402 == 0) = false := beq_eq_false_iff_ne.mpr c67
                  have c67b1 : (t402 != 0) = true := bne_iff_ne.mpr c67
                  (first | rw [c67b0] | (simp only [i64_w, i32_w]; rw [c67b0]) | skip)
                  have H' := Aside0.mk H
                  clear H
                  go_wp2
                  go_meet
                  case rel => exact ⟨_, (true), (by first | rfl | (simp; done) | (simp [*]; done)), H', ⟨by have := HJ1.out; have := HK2.out; first | omega | exact Nat.le_refl _⟩, ⟨by (with_reducible repeat (first | apply Kd.V_alloc | apply Kd.V_drewN | apply Kd.V_drew)); exact Kd.V_mono (Kd.V_far (p := ⟨gb404, 2, none⟩) (Kd.V_far (p := ⟨gb404, 1, none⟩) (Kd.V_far (p := ⟨gb404, 0, none⟩) (Kd.V_far (p := ⟨gb403, 1, none⟩) (Kd.V_far (p := ⟨gb403, 0, none⟩) (Kd.V_mono (Kd.V_mono HO_376000.out (fun k_ hk => (⟨hk, hk.1.2⟩ : _ ∧ k_ ≠ gb403))) (fun k_ hk => (⟨hk, hk.1.2⟩ : _ ∧ k_ ≠ gb404))) (fun _ hk => hk.1.2) (.slice Ao59 t395.length co59)) (fun _ hk => hk.1.2) (.int .i64 t398)) (fun _ hk => hk.2) (.int .i64 t399)) (fun _ hk => hk.2) (.bool t400)) (fun _ hk => hk.2) (.bool t401)) (fun _ hk => ⟨hk.1.1.1.1.1.1, ⟨hk.1.1.1.1.1.2, ⟨hk.1.1.1.2, hk.1.1.2⟩⟩⟩)⟩, ⟨by (with_reducible repeat (first | apply Kd.V_alloc | apply Kd.V_drewN | apply Kd.V_drew)); exact Kd.V_mono (Kd.V_far (p := ⟨gb404, 2, none⟩) (Kd.V_far (p := ⟨gb404, 1, none⟩) (Kd.V_far (p := ⟨gb404, 0, none⟩) (Kd.V_far (p := ⟨gb403, 1, none⟩) (Kd.V_far (p := ⟨gb403, 0, none⟩) (Kd.V_mono (Kd.V_mono HO397.out (fun k_ hk => (⟨hk, hk.1.2⟩ : _ ∧ k_ ≠ gb403))) (fun k_ hk => (⟨hk, hk.1.2⟩ : _ ∧ k_ ≠ gb404))) (fun _ hk => hk.1.2) (.slice Ao59 t395.length co59)) (fun _ hk => hk.1.2) (.int .i64 t398)) (fun _ hk => hk.2) (.int .i64 t399)) (fun _ hk => hk.2) (.bool t400)) (fun _ hk => hk.2) (.bool t401)) (fun _ hk => ⟨hk.1.1.1.1.2.1, ⟨hk.1.1.1.1.2.2, ⟨hk.1.1.1.2, hk.1.1.2⟩⟩⟩)⟩, ⟨by (with_reducible repeat (first | refine blk_drewN ?_ _ | refine blk_drew ?_ | refine blk_alloc ?_ _)); refine blk_far ?_ NB361_404.out _; (with_reducible repeat (first | refine blk_drewN ?_ _ | refine blk_drew ?_ | refine blk_alloc ?_ _)); refine blk_far ?_ NB361_404.out _; (with_reducible repeat (first | refine blk_drewN ?_ _ | refine blk_drew ?_ | refine blk_alloc ?_ _)); refine blk_far ?_ NB361_404.out _; (with_reducible repeat (first | refine blk_drewN ?_ _ | refine blk_drew ?_ | refine blk_alloc ?_ _)); refine blk_far ?_ NB361_403.out _; (with_reducible repeat (first | refine blk_drewN ?_ _ | refine blk_drew ?_ | refine blk_alloc ?_ _)); refine blk_far ?_ NB361_403.out _; (with_reducible repeat (first | refine blk_drewN ?_ _ | refine blk_drew ?_ | refine blk_alloc ?_ _)); exact BK361.out⟩, ⟨by (with_reducible repeat (first | refine blk_drewN ?_ _ | refine blk_drew ?_ | refine blk_alloc ?_ _)); refine blk_far ?_ NB375_404.out _; (with_reducible repeat (first | refine blk_drewN ?_ _ | refine blk_drew ?_ | refine blk_alloc ?_ _)); refine blk_far ?_ NB375_404.out _; (with_reducible repeat (first | refine blk_drewN ?_ _ | refine blk_drew ?_ | refine blk_alloc ?_ _)); refine blk_far ?_ NB375_404.out _; (with_reducible repeat (first | refine blk_drewN ?_ _ | refine blk_drew ?_ | refine blk_alloc ?_ _)); refine blk_far ?_ NB375_403.out _; (with_reducible repeat (first | refine blk_drewN ?_ _ | refine blk_drew ?_ | refine blk_alloc ?_ _)); refine blk_far ?_ NB375_403.out _; (with_reducible repeat (first | refine blk_drewN ?_ _ | refine blk_drew ?_ | refine blk_alloc ?_ _)); exact BK375.out⟩, ⟨by (with_reducible repeat (first | refine blk_drewN ?_ _ | refine blk_drew ?_ | refine blk_alloc ?_ _)); refine blk_far ?_ NB403_404.out _; (with_reducible repeat (first | refine blk_drewN ?_ _ | refine blk_drew ?_ | refine blk_alloc ?_ _)); refine blk_far ?_ NB403_404.out _; (with_reducible repeat (first | refine blk_drewN ?_ _ | refine blk_drew ?_ | refine blk_alloc ?_ _)); refine blk_far ?_ NB403_404.out _; (with_reducible repeat (first | refine blk_drewN ?_ _ | refine blk_drew ?_ | refine blk_alloc ?_ _)); refine blk_put (cs := #[.slice Ao59 t395.length co59, .int .i64 0]) ?_ 1 _ rfl; (with_reducible repeat (first | refine blk_drewN ?_ _ | refine blk_drew ?_ | refine blk_alloc ?_ _)); refine blk_put (cs := #[.slice none 0 0, .int .i64 0]) ?_ 0 _ rfl; (with_reducible repeat (first | refine blk_drewN ?_ _ | refine blk_drew ?_ | refine blk_alloc ?_ _)); exact BK403.out⟩, ⟨by (with_reducible repeat (first | refine blk_drewN ?_ _ | refine blk_drew ?_ | refine blk_alloc ?_ _)); refine blk_put (cs := #[.int .i64 t399, .bool t400, .bool false]) ?_ 2 _ rfl; (with_reducible repeat (first | refine blk_drewN ?_ _ | refine blk_drew ?_ | refine blk_alloc ?_ _)); refine blk_put (cs := #[.int .i64 t399, .bool false, .bool false]) ?_ 1 _ rfl; (with_reducible repeat (first | refine blk_drewN ?_ _ | refine blk_drew ?_ | refine blk_alloc ?_ _)); refine blk_put (cs := #[.int .i64 0, .bool false, .bool false]) ?_ 0 _ rfl; (with_reducible repeat (first | refine blk_drewN ?_ _ | refine blk_drew ?_ | refine blk_alloc ?_ _)); refine blk_far ?_ NB404_403.out _; (with_reducible repeat (first | refine blk_drewN ?_ _ | refine blk_drew ?_ | refine blk_alloc ?_ _)); refine blk_far ?_ NB404_403.out _; (with_reducible repeat (first | refine blk_drewN ?_ _ | refine blk_drew ?_ | refine blk_alloc ?_ _)); exact BK404.out⟩, ⟨by repeat (first | (with_reducible first | exact HB.out | apply below_alloc | apply pw_below_drewN | apply below_drew1 | refine below_set ?_ GE361.out | refine below_set ?_ GE375.out | refine below_set ?_ GE403.out | refine below_set ?_ GE404.out) | exact HB.out)⟩⟩
              case rest =>
                clear HC50
                try clear c1
                try clear c2
                try clear p2
                try clear c3
                try clear c4
                try clear c5
                try clear c6
                try clear p6
                try clear c7
                try clear c8
                try clear c9
                try clear c10
                try clear c10b0
                try clear c10b1
                try clear c11
                try clear c12
                try clear c15
                try clear c23
                try clear c32
                try clear c44
                try clear c47
                try clear c47b0
                try clear c51
                try clear c60
                try clear c61
                try clear c62
                try clear c64
                try clear p64
                try clear c65
                try clear c67
                try clear c67b0
                try clear c67b1
                try clear c68
                try clear c68b0
                try clear c69
                try clear c70
                try clear c71
                try clear c74
                try clear c74b0
                try clear c74b1
                try clear c75
                try clear c75b0
                try clear c76
                try clear c76b0
                try clear c76b1
                try clear c79
                try clear c80
                try clear c81
                try clear c83
                try clear c84
                try clear c92
                try clear c93
                try clear c94
                try clear c96
                try clear c97
                try clear c103
                try clear c104
                try clear c105
                try clear c107
                try clear c108
                try clear c115
                try clear c116
                try clear c117
                try clear c119
                try clear c120
                try clear hcz100_0
                try clear hcz100_1
                try clear hcz100_2
                try clear hcz106_0
                try clear hcz106_1
                try clear hcz106_2
                try clear hcz109_0
                try clear hcz109_1
                try clear hcz111_0
                try clear hcz111_1
                try clear hcz118_0
                try clear hcz118_1
                try clear hcz118_2
                try clear hcz121_0
                try clear hcz121_1
                try clear hcz13_0
                try clear hcz13_1
                try clear hcz15_0
                try clear hcz15_1
                try clear hcz19_0
                try clear hcz19_1
                try clear hcz22_0
                try clear hcz22_1
                try clear hcz24_0
                try clear hcz24_1
                try clear hcz29_0
                try clear hcz29_1
                try clear hcz45_0
                try clear hcz45_1
                try clear hcz52_0
                try clear hcz52_1
                try clear hcz63_0
                try clear hcz63_1
                try clear hcz66_0
                try clear hcz66_1
                try clear hcz66_2
                try clear hcz72_0
                try clear hcz72_1
                try clear hcz72_2
                try clear hcz82_0
                try clear hcz82_1
                try clear hcz82_2
                try clear hcz85_0
                try clear hcz85_1
                try clear hcz87_0
                try clear hcz87_1
                try clear hcz87_2
                try clear hcz88_0
                try clear hcz88_1
                try clear hcz95_0
                try clear hcz95_1
                try clear hcz95_2
                try clear hcz98_0
                try clear hcz98_1
                try clear hfz100_0
                try clear hfz100_1
                try clear hfz100_2
                try clear hfz106_0
                try clear hfz106_1
                try clear hfz106_2
                try clear hfz109_0
                try clear hfz109_1
                try clear hfz111_0
                try clear hfz111_1
                try clear hfz118_0
                try clear hfz118_1
                try clear hfz118_2
                try clear hfz121_0
                try clear hfz121_1
                try clear hfz13_0
                try clear hfz13_1
                try clear hfz15_0
                try clear hfz15_1
                try clear hfz19_0
                try clear hfz19_1
                try clear hfz22_0
                try clear hfz22_1
                try clear hfz24_0
                try clear hfz24_1
                try clear hfz29_0
                try clear hfz29_1
                try clear hfz45_0
                try clear hfz45_1
                try clear hfz52_0
                try clear hfz52_1
                try clear hfz63_0
                try clear hfz63_1
                try clear hfz66_0
                try clear hfz66_1
                try clear hfz66_2
                try clear hfz72_0
                try clear hfz72_1
                try clear hfz72_2
                try clear hfz82_0
                try clear hfz82_1
                try clear hfz82_2
                try clear hfz85_0
                try clear hfz85_1
                try clear hfz87_0
                try clear hfz87_1
                try clear hfz87_2
                try clear hfz88_0
                try clear hfz88_1
                try clear hfz95_0
                try clear hfz95_1
                try clear hfz95_2
                try clear hfz98_0
                try clear hfz98_1
                try clear p2
                obtain ⟨kq, x77_49, rfl, HA, HJ49, HO_376000, HO_404000, BK361, BK375, BK403, BK404, HB⟩ := hcut
                cases kq with
                | zero => exact absurd HA.out (by simp [trefoillaw18_LaneEnds.j2])
                | succ kj49 =>
                  have H := HA.out
                  clear HA
                  simp only [trefoillaw18_LaneEnds.j2] at H
                  by_cases c123 : x77_49 = true
                  · subst c123
                    have H1 : (some false) = some r := by rw [if_pos rfl] at H; exact H
                    clear H
                    have H := H1
                    clear H1
                    obtain rfl := Option.some.inj H
                    go_wp2
                    go_ret
                    exact ⟨by first | rfl | (simp [errW_none, errW_some] <;> rfl) | (simp [*, errW_none, errW_some] <;> rfl), by repeat (first | (with_reducible first | exact HB.out | apply below_alloc | apply pw_below_drewN | apply below_drew1 | refine below_set ?_ GE361.out | refine below_set ?_ GE375.out | refine below_set ?_ GE403.out | refine below_set ?_ GE404.out) | exact HB.out)⟩
                  · replace c123 := Bool.eq_false_iff.mpr c123
                    subst c123
                    have H1 : (if t400 = true then (if t398 = (-1) then (if (t401 != ((t395.length : Int) == (wrap64 ((x376000_2.length : Int) - 1)))) = true then (some false) else (if t401 = true then (trefoillaw18_LaneEnds.l0 kj49 (-1) (wrap64 (x5_2 - 1)) t395 t398) else (trefoillaw18_LaneEnds.l0 kj49 (-1) (wrap64 (x5_2 - 1)) t395 t398))) else (some false)) else (if t398 = t399 then (if (t401 != ((t395.length : Int) == (wrap64 ((x376000_2.length : Int) - 1)))) = true then (some false) else (if t401 = true then (some false) else (trefoillaw18_LaneEnds.l0 kj49 t399 (wrap64 (x5_2 - 1)) t395 t398))) else (some false))) = some r := by rw [if_neg (show ¬ (false = true) by decide)] at H; exact H
                    clear H
                    have H := H1
                    clear H1
                    by_cases c124 : t400 = true
                    · subst c124
                      have H1 : (if t398 = (-1) then (if (t401 != ((t395.length : Int) == (wrap64 ((x376000_2.length : Int) - 1)))) = true then (some false) else (if t401 = true then (trefoillaw18_LaneEnds.l0 kj49 (-1) (wrap64 (x5_2 - 1)) t395 t398) else (trefoillaw18_LaneEnds.l0 kj49 (-1) (wrap64 (x5_2 - 1)) t395 t398))) else (some false)) = some r := by rw [if_pos rfl] at H; exact H
                      clear H
                      have H := H1
                      clear H1
                      by_cases c125 : t398 = (-1)
                      · rw [if_pos c125] at H
                        have c125b0 : (t398 == (-1)) = true := beq_iff_eq.mpr c125
                        have c125b1 : (t398 != (-1)) = false := bne_eq_false_iff_eq.mpr c125
                        clear c125
                        by_cases c126 : (t401 != ((t395.length : Int) == (wrap64 ((x376000_2.length : Int) - 1)))) = true
                        · rw [if_pos c126] at H
                          have c126b0 : (t401 != ((t395.length : Int) == (wrap64 ((x376000_2.length : Int) - 1)))) = true := c126
                          (try (have c126b1 : decide (t401 = ((t395.length : Int) == (wrap64 ((x376000_2.length : Int) - 1)))) = false := by simpa using c126))
                          (try (have c126b2 : (t401 == ((t395.length : Int) == (wrap64 ((x376000_2.length : Int) - 1)))) = false := by simpa using c126))
                          (try (have c126b3 : ¬ (t401 = ((t395.length : Int) == (wrap64 ((x376000_2.length : Int) - 1)))) := by simpa using c126))
                          clear c126
                          obtain rfl := Option.some.inj H
                          have hnb127 := NB404_361.out
                          have hnc127 := NB361_404.out
                          have hnb128 := NB404_375.out
                          have hnc128 := NB375_404.out
                          have hnb129 := NB404_403.out
                          have hnc129 := NB403_404.out
                          have hcz130_0 : wc.cell? ⟨gb404, 0, none⟩ = some (.int .i64 t399) := (blk_cell BK404.out 0).trans rfl
                          have hcz130_1 : wc.cell? ⟨gb404, 1, none⟩ = some (.bool true) := (blk_cell BK404.out 1).trans rfl
                          have hcz130_2 : wc.cell? ⟨gb404, 2, none⟩ = some (.bool t401) := (blk_cell BK404.out 2).trans rfl
                          have hfz130_0 := blk_frozen BK404.out 0
                          have hfz130_1 := blk_frozen BK404.out 1
                          have hfz130_2 := blk_frozen BK404.out 2
                          have hnb131 := NB403_361.out
                          have hnc131 := NB361_403.out
                          have hnb132 := NB403_375.out
                          have hnc132 := NB375_403.out
                          have hcz133_0 : wc.cell? ⟨gb403, 0, none⟩ = some (.slice Ao59 t395.length co59) := (blk_cell BK403.out 0).trans rfl
                          have hcz133_1 : wc.cell? ⟨gb403, 1, none⟩ = some (.int .i64 t398) := (blk_cell BK403.out 1).trans rfl
                          have hfz133_0 := blk_frozen BK403.out 0
                          have hfz133_1 := blk_frozen BK403.out 1
                          have hnb134 := NB375_361.out
                          have hnc134 := NB361_375.out
                          have hcz135_0 : wc.cell? ⟨gb375, 0, none⟩ = some (.slice Ao53 x376000_2.length co53) := (blk_cell BK375.out 0).trans rfl
                          have hcz135_1 : wc.cell? ⟨gb375, 1, none⟩ = some (.int .i64 x376001_2) := (blk_cell BK375.out 1).trans rfl
                          have hfz135_0 := blk_frozen BK375.out 0
                          have hfz135_1 := blk_frozen BK375.out 1
                          go_wp2
                          go_ret
                          exact ⟨by first | rfl | (simp [errW_none, errW_some] <;> rfl) | (simp [*, errW_none, errW_some] <;> rfl), by repeat (first | (with_reducible first | exact HB.out | apply below_alloc | apply pw_below_drewN | apply below_drew1 | refine below_set ?_ GE361.out | refine below_set ?_ GE375.out | refine below_set ?_ GE403.out | refine below_set ?_ GE404.out) | exact HB.out)⟩
                        · rw [if_neg c126] at H
                          have c126b0 : (t401 != ((t395.length : Int) == (wrap64 ((x376000_2.length : Int) - 1)))) = false := by simpa using c126
                          (try (have c126b1 : decide (t401 = ((t395.length : Int) == (wrap64 ((x376000_2.length : Int) - 1)))) = true := by simpa using c126))
                          (try (have c126b2 : (t401 == ((t395.length : Int) == (wrap64 ((x376000_2.length : Int) - 1)))) = true := by simpa using c126))
                          clear c126
                          by_cases c136 : t401 = true
                          · subst c136
                            have H1 : (trefoillaw18_LaneEnds.l0 kj49 (-1) (wrap64 (x5_2 - 1)) t395 t398) = some r := by rw [if_pos rfl] at H; exact H
                            clear H
                            have H := H1
                            clear H1
                            have H' := Aside0.mk H
                            clear H
                            have hnb137 := NB404_361.out
                            have hnc137 := NB361_404.out
                            have hnb138 := NB404_375.out
                            have hnc138 := NB375_404.out
                            have hnb139 := NB404_403.out
                            have hnc139 := NB403_404.out
                            have hcz140_0 : wc.cell? ⟨gb404, 0, none⟩ = some (.int .i64 t399) := (blk_cell BK404.out 0).trans rfl
                            have hcz140_1 : wc.cell? ⟨gb404, 1, none⟩ = some (.bool true) := (blk_cell BK404.out 1).trans rfl
                            have hcz140_2 : wc.cell? ⟨gb404, 2, none⟩ = some (.bool true) := (blk_cell BK404.out 2).trans rfl
                            have hfz140_0 := blk_frozen BK404.out 0
                            have hfz140_1 := blk_frozen BK404.out 1
                            have hfz140_2 := blk_frozen BK404.out 2
                            have hnb141 := NB403_361.out
                            have hnc141 := NB361_403.out
                            have hnb142 := NB403_375.out
                            have hnc142 := NB375_403.out
                            have hcz143_0 : wc.cell? ⟨gb403, 0, none⟩ = some (.slice Ao59 t395.length co59) := (blk_cell BK403.out 0).trans rfl
                            have hcz143_1 : wc.cell? ⟨gb403, 1, none⟩ = some (.int .i64 t398) := (blk_cell BK403.out 1).trans rfl
                            have hfz143_0 := blk_frozen BK403.out 0
                            have hfz143_1 := blk_frozen BK403.out 1
                            have hnb144 := NB375_361.out
                            have hnc144 := NB361_375.out
                            have hcz145_0 : wc.cell? ⟨gb375, 0, none⟩ = some (.slice Ao53 x376000_2.length co53) := (blk_cell BK375.out 0).trans rfl
                            have hcz145_1 : wc.cell? ⟨gb375, 1, none⟩ = some (.int .i64 x376001_2) := (blk_cell BK375.out 1).trans rfl
                            have hfz145_0 := blk_frozen BK375.out 0
                            have hfz145_1 := blk_frozen BK375.out 1
                            go_wp2
                            go_roundg kj49
                            case measure => have := HJ1.out; have := HK2.out; have := HJ49.out; omega
                            case rel => exact ⟨((-1)), (wrap64 (x5_2 - 1)), (t395), (t398), (.slice Ao59 t395.length co59), (by first | rfl | (simp; done) | (simp [*]; done)), (by first | rfl | (simp; done) | (simp [*]; done)), H', ⟨by have := HJ1.out; have := HK2.out; have := HJ49.out; omega⟩, ⟨by (with_reducible repeat (first | apply Kd.V_alloc | apply Kd.V_drewN | apply Kd.V_drew)); exact Kd.V_mono (Kd.V_far (p := ⟨gb375, 1, none⟩) (Kd.V_far (p := ⟨gb375, 0, none⟩) (Kd.V_mono HO_404000.out (fun k_ hk => (⟨hk, hk.2.1⟩ : _ ∧ k_ ≠ gb375))) (fun _ hk => hk.2) (.slice Ao59 t395.length co59)) (fun _ hk => hk.2) (.int .i64 t398)) (fun _ hk => ⟨hk.1.1, hk.1.2.1⟩)⟩, ⟨by (with_reducible repeat (first | refine blk_drewN ?_ _ | refine blk_drew ?_ | refine blk_alloc ?_ _)); refine blk_far ?_ NB361_375.out _; (with_reducible repeat (first | refine blk_drewN ?_ _ | refine blk_drew ?_ | refine blk_alloc ?_ _)); refine blk_far ?_ NB361_375.out _; (with_reducible repeat (first | refine blk_drewN ?_ _ | refine blk_drew ?_ | refine blk_alloc ?_ _)); exact BK361.out⟩, ⟨by (with_reducible repeat (first | refine blk_drewN ?_ _ | refine blk_drew ?_ | refine blk_alloc ?_ _)); refine blk_put (cs := #[.slice Ao59 t395.length co59, .int .i64 x376001_2]) ?_ 1 _ rfl; (with_reducible repeat (first | refine blk_drewN ?_ _ | refine blk_drew ?_ | refine blk_alloc ?_ _)); refine blk_put (cs := #[.slice Ao53 x376000_2.length co53, .int .i64 x376001_2]) ?_ 0 _ rfl; (with_reducible repeat (first | refine blk_drewN ?_ _ | refine blk_drew ?_ | refine blk_alloc ?_ _)); exact BK375.out⟩, ⟨by repeat (first | (with_reducible first | exact HB.out | apply below_alloc | apply pw_below_drewN | apply below_drew1 | refine below_set ?_ GE361.out | refine below_set ?_ GE375.out | refine below_set ?_ GE403.out | refine below_set ?_ GE404.out) | exact HB.out)⟩⟩
                          · replace c136 := Bool.eq_false_iff.mpr c136
                            subst c136
                            have H1 : (trefoillaw18_LaneEnds.l0 kj49 (-1) (wrap64 (x5_2 - 1)) t395 t398) = some r := by rw [if_neg (show ¬ (false = true) by decide)] at H; exact H
                            clear H
                            have H := H1
                            clear H1
                            have H' := Aside0.mk H
                            clear H
                            have hnb146 := NB404_361.out
                            have hnc146 := NB361_404.out
                            have hnb147 := NB404_375.out
                            have hnc147 := NB375_404.out
                            have hnb148 := NB404_403.out
                            have hnc148 := NB403_404.out
                            have hcz149_0 : wc.cell? ⟨gb404, 0, none⟩ = some (.int .i64 t399) := (blk_cell BK404.out 0).trans rfl
                            have hcz149_1 : wc.cell? ⟨gb404, 1, none⟩ = some (.bool true) := (blk_cell BK404.out 1).trans rfl
                            have hcz149_2 : wc.cell? ⟨gb404, 2, none⟩ = some (.bool false) := (blk_cell BK404.out 2).trans rfl
                            have hfz149_0 := blk_frozen BK404.out 0
                            have hfz149_1 := blk_frozen BK404.out 1
                            have hfz149_2 := blk_frozen BK404.out 2
                            have hnb150 := NB403_361.out
                            have hnc150 := NB361_403.out
                            have hnb151 := NB403_375.out
                            have hnc151 := NB375_403.out
                            have hcz152_0 : wc.cell? ⟨gb403, 0, none⟩ = some (.slice Ao59 t395.length co59) := (blk_cell BK403.out 0).trans rfl
                            have hcz152_1 : wc.cell? ⟨gb403, 1, none⟩ = some (.int .i64 t398) := (blk_cell BK403.out 1).trans rfl
                            have hfz152_0 := blk_frozen BK403.out 0
                            have hfz152_1 := blk_frozen BK403.out 1
                            have hnb153 := NB375_361.out
                            have hnc153 := NB361_375.out
                            have hcz154_0 : wc.cell? ⟨gb375, 0, none⟩ = some (.slice Ao53 x376000_2.length co53) := (blk_cell BK375.out 0).trans rfl
                            have hcz154_1 : wc.cell? ⟨gb375, 1, none⟩ = some (.int .i64 x376001_2) := (blk_cell BK375.out 1).trans rfl
                            have hfz154_0 := blk_frozen BK375.out 0
                            have hfz154_1 := blk_frozen BK375.out 1
                            go_wp2
                            go_roundg kj49
                            case measure => have := HJ1.out; have := HK2.out; have := HJ49.out; omega
                            case rel => exact ⟨((-1)), (wrap64 (x5_2 - 1)), (t395), (t398), (.slice Ao59 t395.length co59), (by first | rfl | (simp; done) | (simp [*]; done)), (by first | rfl | (simp; done) | (simp [*]; done)), H', ⟨by have := HJ1.out; have := HK2.out; have := HJ49.out; omega⟩, ⟨by (with_reducible repeat (first | apply Kd.V_alloc | apply Kd.V_drewN | apply Kd.V_drew)); exact Kd.V_mono (Kd.V_far (p := ⟨gb375, 1, none⟩) (Kd.V_far (p := ⟨gb375, 0, none⟩) (Kd.V_mono HO_404000.out (fun k_ hk => (⟨hk, hk.2.1⟩ : _ ∧ k_ ≠ gb375))) (fun _ hk => hk.2) (.slice Ao59 t395.length co59)) (fun _ hk => hk.2) (.int .i64 t398)) (fun _ hk => ⟨hk.1.1, hk.1.2.1⟩)⟩, ⟨by (with_reducible repeat (first | refine blk_drewN ?_ _ | refine blk_drew ?_ | refine blk_alloc ?_ _)); refine blk_far ?_ NB361_375.out _; (with_reducible repeat (first | refine blk_drewN ?_ _ | refine blk_drew ?_ | refine blk_alloc ?_ _)); refine blk_far ?_ NB361_375.out _; (with_reducible repeat (first | refine blk_drewN ?_ _ | refine blk_drew ?_ | refine blk_alloc ?_ _)); exact BK361.out⟩, ⟨by (with_reducible repeat (first | refine blk_drewN ?_ _ | refine blk_drew ?_ | refine blk_alloc ?_ _)); refine blk_put (cs := #[.slice Ao59 t395.length co59, .int .i64 x376001_2]) ?_ 1 _ rfl; (with_reducible repeat (first | refine blk_drewN ?_ _ | refine blk_drew ?_ | refine blk_alloc ?_ _)); refine blk_put (cs := #[.slice Ao53 x376000_2.length co53, .int .i64 x376001_2]) ?_ 0 _ rfl; (with_reducible repeat (first | refine blk_drewN ?_ _ | refine blk_drew ?_ | refine blk_alloc ?_ _)); exact BK375.out⟩, ⟨by repeat (first | (with_reducible first | exact HB.out | apply below_alloc | apply pw_below_drewN | apply below_drew1 | refine below_set ?_ GE361.out | refine below_set ?_ GE375.out | refine below_set ?_ GE403.out | refine below_set ?_ GE404.out) | exact HB.out)⟩⟩
                      · rw [if_neg c125] at H
                        have c125b0 : (t398 == (-1)) = false := beq_eq_false_iff_ne.mpr c125
                        have c125b1 : (t398 != (-1)) = true := bne_iff_ne.mpr c125
                        obtain rfl := Option.some.inj H
                        have hnb155 := NB404_361.out
                        have hnc155 := NB361_404.out
                        have hnb156 := NB404_375.out
                        have hnc156 := NB375_404.out
                        have hnb157 := NB404_403.out
                        have hnc157 := NB403_404.out
                        have hcz158_0 : wc.cell? ⟨gb404, 0, none⟩ = some (.int .i64 t399) := (blk_cell BK404.out 0).trans rfl
                        have hcz158_1 : wc.cell? ⟨gb404, 1, none⟩ = some (.bool true) := (blk_cell BK404.out 1).trans rfl
                        have hcz158_2 : wc.cell? ⟨gb404, 2, none⟩ = some (.bool t401) := (blk_cell BK404.out 2).trans rfl
                        have hfz158_0 := blk_frozen BK404.out 0
                        have hfz158_1 := blk_frozen BK404.out 1
                        have hfz158_2 := blk_frozen BK404.out 2
                        have hnb159 := NB403_361.out
                        have hnc159 := NB361_403.out
                        have hnb160 := NB403_375.out
                        have hnc160 := NB375_403.out
                        have hcz161_0 : wc.cell? ⟨gb403, 0, none⟩ = some (.slice Ao59 t395.length co59) := (blk_cell BK403.out 0).trans rfl
                        have hcz161_1 : wc.cell? ⟨gb403, 1, none⟩ = some (.int .i64 t398) := (blk_cell BK403.out 1).trans rfl
                        have hfz161_0 := blk_frozen BK403.out 0
                        have hfz161_1 := blk_frozen BK403.out 1
                        go_wp2
                        go_ret
                        exact ⟨by first | rfl | (simp [errW_none, errW_some] <;> rfl) | (simp [*, errW_none, errW_some] <;> rfl), by repeat (first | (with_reducible first | exact HB.out | apply below_alloc | apply pw_below_drewN | apply below_drew1 | refine below_set ?_ GE361.out | refine below_set ?_ GE375.out | refine below_set ?_ GE403.out | refine below_set ?_ GE404.out) | exact HB.out)⟩
                    · replace c124 := Bool.eq_false_iff.mpr c124
                      subst c124
                      have H1 : (if t398 = t399 then (if (t401 != ((t395.length : Int) == (wrap64 ((x376000_2.length : Int) - 1)))) = true then (some false) else (if t401 = true then (some false) else (trefoillaw18_LaneEnds.l0 kj49 t399 (wrap64 (x5_2 - 1)) t395 t398))) else (some false)) = some r := by rw [if_neg (show ¬ (false = true) by decide)] at H; exact H
                      clear H
                      have H := H1
                      clear H1
                      by_cases c162 : t398 = t399
                      · rw [if_pos c162] at H
                        have c162b0 : (t398 == t399) = true := beq_iff_eq.mpr c162
                        have c162b1 : (t398 != t399) = false := bne_eq_false_iff_eq.mpr c162
                        clear c162
                        by_cases c163 : (t401 != ((t395.length : Int) == (wrap64 ((x376000_2.length : Int) - 1)))) = true
                        · rw [if_pos c163] at H
                          have c163b0 : (t401 != ((t395.length : Int) == (wrap64 ((x376000_2.length : Int) - 1)))) = true := c163
                          (try (have c163b1 : decide (t401 = ((t395.length : Int) == (wrap64 ((x376000_2.length : Int) - 1)))) = false := by simpa using c163))
                          (try (have c163b2 : (t401 == ((t395.length : Int) == (wrap64 ((x376000_2.length : Int) - 1)))) = false := by simpa using c163))
                          (try (have c163b3 : ¬ (t401 = ((t395.length : Int) == (wrap64 ((x376000_2.length : Int) - 1)))) := by simpa using c163))
                          clear c163
                          obtain rfl := Option.some.inj H
                          have hnb164 := NB404_361.out
                          have hnc164 := NB361_404.out
                          have hnb165 := NB404_375.out
                          have hnc165 := NB375_404.out
                          have hnb166 := NB404_403.out
                          have hnc166 := NB403_404.out
                          have hcz167_0 : wc.cell? ⟨gb404, 0, none⟩ = some (.int .i64 t399) := (blk_cell BK404.out 0).trans rfl
                          have hcz167_1 : wc.cell? ⟨gb404, 1, none⟩ = some (.bool false) := (blk_cell BK404.out 1).trans rfl
                          have hcz167_2 : wc.cell? ⟨gb404, 2, none⟩ = some (.bool t401) := (blk_cell BK404.out 2).trans rfl
                          have hfz167_0 := blk_frozen BK404.out 0
                          have hfz167_1 := blk_frozen BK404.out 1
                          have hfz167_2 := blk_frozen BK404.out 2
                          have hnb168 := NB403_361.out
                          have hnc168 := NB361_403.out
                          have hnb169 := NB403_375.out
                          have hnc169 := NB375_403.out
                          have hcz170_0 : wc.cell? ⟨gb403, 0, none⟩ = some (.slice Ao59 t395.length co59) := (blk_cell BK403.out 0).trans rfl
                          have hcz170_1 : wc.cell? ⟨gb403, 1, none⟩ = some (.int .i64 t398) := (blk_cell BK403.out 1).trans rfl
                          have hfz170_0 := blk_frozen BK403.out 0
                          have hfz170_1 := blk_frozen BK403.out 1
                          have hnb171 := NB375_361.out
                          have hnc171 := NB361_375.out
                          have hcz172_0 : wc.cell? ⟨gb375, 0, none⟩ = some (.slice Ao53 x376000_2.length co53) := (blk_cell BK375.out 0).trans rfl
                          have hcz172_1 : wc.cell? ⟨gb375, 1, none⟩ = some (.int .i64 x376001_2) := (blk_cell BK375.out 1).trans rfl
                          have hfz172_0 := blk_frozen BK375.out 0
                          have hfz172_1 := blk_frozen BK375.out 1
                          go_wp2
                          go_ret
                          exact ⟨by first | rfl | (simp [errW_none, errW_some] <;> rfl) | (simp [*, errW_none, errW_some] <;> rfl), by repeat (first | (with_reducible first | exact HB.out | apply below_alloc | apply pw_below_drewN | apply below_drew1 | refine below_set ?_ GE361.out | refine below_set ?_ GE375.out | refine below_set ?_ GE403.out | refine below_set ?_ GE404.out) | exact HB.out)⟩
                        · rw [if_neg c163] at H
                          have c163b0 : (t401 != ((t395.length : Int) == (wrap64 ((x376000_2.length : Int) - 1)))) = false := by simpa using c163
                          (try (have c163b1 : decide (t401 = ((t395.length : Int) == (wrap64 ((x376000_2.length : Int) - 1)))) = true := by simpa using c163))
                          (try (have c163b2 : (t401 == ((t395.length : Int) == (wrap64 ((x376000_2.length : Int) - 1)))) = true := by simpa using c163))
                          clear c163
                          by_cases c173 : t401 = true
                          · subst c173
                            have H1 : (some false) = some r := by rw [if_pos rfl] at H; exact H
                            clear H
                            have H := H1
                            clear H1
                            obtain rfl := Option.some.inj H
                            have hnb174 := NB404_361.out
                            have hnc174 := NB361_404.out
                            have hnb175 := NB404_375.out
                            have hnc175 := NB375_404.out
                            have hnb176 := NB404_403.out
                            have hnc176 := NB403_404.out
                            have hcz177_0 : wc.cell? ⟨gb404, 0, none⟩ = some (.int .i64 t399) := (blk_cell BK404.out 0).trans rfl
                            have hcz177_1 : wc.cell? ⟨gb404, 1, none⟩ = some (.bool false) := (blk_cell BK404.out 1).trans rfl
                            have hcz177_2 : wc.cell? ⟨gb404, 2, none⟩ = some (.bool true) := (blk_cell BK404.out 2).trans rfl
                            have hfz177_0 := blk_frozen BK404.out 0
                            have hfz177_1 := blk_frozen BK404.out 1
                            have hfz177_2 := blk_frozen BK404.out 2
                            have hnb178 := NB403_361.out
                            have hnc178 := NB361_403.out
                            have hnb179 := NB403_375.out
                            have hnc179 := NB375_403.out
                            have hcz180_0 : wc.cell? ⟨gb403, 0, none⟩ = some (.slice Ao59 t395.length co59) := (blk_cell BK403.out 0).trans rfl
                            have hcz180_1 : wc.cell? ⟨gb403, 1, none⟩ = some (.int .i64 t398) := (blk_cell BK403.out 1).trans rfl
                            have hfz180_0 := blk_frozen BK403.out 0
                            have hfz180_1 := blk_frozen BK403.out 1
                            have hnb181 := NB375_361.out
                            have hnc181 := NB361_375.out
                            have hcz182_0 : wc.cell? ⟨gb375, 0, none⟩ = some (.slice Ao53 x376000_2.length co53) := (blk_cell BK375.out 0).trans rfl
                            have hcz182_1 : wc.cell? ⟨gb375, 1, none⟩ = some (.int .i64 x376001_2) := (blk_cell BK375.out 1).trans rfl
                            have hfz182_0 := blk_frozen BK375.out 0
                            have hfz182_1 := blk_frozen BK375.out 1
                            go_wp2
                            go_ret
                            exact ⟨by first | rfl | (simp [errW_none, errW_some] <;> rfl) | (simp [*, errW_none, errW_some] <;> rfl), by repeat (first | (with_reducible first | exact HB.out | apply below_alloc | apply pw_below_drewN | apply below_drew1 | refine below_set ?_ GE361.out | refine below_set ?_ GE375.out | refine below_set ?_ GE403.out | refine below_set ?_ GE404.out) | exact HB.out)⟩
                          · replace c173 := Bool.eq_false_iff.mpr c173
                            subst c173
                            have H1 : (trefoillaw18_LaneEnds.l0 kj49 t399 (wrap64 (x5_2 - 1)) t395 t398) = some r := by rw [if_neg (show ¬ (false = true) by decide)] at H; exact H
                            clear H
                            have H := H1
                            clear H1
                            have H' := Aside0.mk H
                            clear H
                            have hnb183 := NB404_361.out
                            have hnc183 := NB361_404.out
                            have hnb184 := NB404_375.out
                            have hnc184 := NB375_404.out
                            have hnb185 := NB404_403.out
                            have hnc185 := NB403_404.out
                            have hcz186_0 : wc.cell? ⟨gb404, 0, none⟩ = some (.int .i64 t399) := (blk_cell BK404.out 0).trans rfl
                            have hcz186_1 : wc.cell? ⟨gb404, 1, none⟩ = some (.bool false) := (blk_cell BK404.out 1).trans rfl
                            have hcz186_2 : wc.cell? ⟨gb404, 2, none⟩ = some (.bool false) := (blk_cell BK404.out 2).trans rfl
                            have hfz186_0 := blk_frozen BK404.out 0
                            have hfz186_1 := blk_frozen BK404.out 1
                            have hfz186_2 := blk_frozen BK404.out 2
                            have hnb187 := NB403_361.out
                            have hnc187 := NB361_403.out
                            have hnb188 := NB403_375.out
                            have hnc188 := NB375_403.out
                            have hcz189_0 : wc.cell? ⟨gb403, 0, none⟩ = some (.slice Ao59 t395.length co59) := (blk_cell BK403.out 0).trans rfl
                            have hcz189_1 : wc.cell? ⟨gb403, 1, none⟩ = some (.int .i64 t398) := (blk_cell BK403.out 1).trans rfl
                            have hfz189_0 := blk_frozen BK403.out 0
                            have hfz189_1 := blk_frozen BK403.out 1
                            have hnb190 := NB375_361.out
                            have hnc190 := NB361_375.out
                            have hcz191_0 : wc.cell? ⟨gb375, 0, none⟩ = some (.slice Ao53 x376000_2.length co53) := (blk_cell BK375.out 0).trans rfl
                            have hcz191_1 : wc.cell? ⟨gb375, 1, none⟩ = some (.int .i64 x376001_2) := (blk_cell BK375.out 1).trans rfl
                            have hfz191_0 := blk_frozen BK375.out 0
                            have hfz191_1 := blk_frozen BK375.out 1
                            go_wp2
                            go_roundg kj49
                            case measure => have := HJ1.out; have := HK2.out; have := HJ49.out; omega
                            case rel => exact ⟨(t399), (wrap64 (x5_2 - 1)), (t395), (t398), (.slice Ao59 t395.length co59), (by first | rfl | (simp; done) | (simp [*]; done)), (by first | rfl | (simp; done) | (simp [*]; done)), H', ⟨by have := HJ1.out; have := HK2.out; have := HJ49.out; omega⟩, ⟨by (with_reducible repeat (first | apply Kd.V_alloc | apply Kd.V_drewN | apply Kd.V_drew)); exact Kd.V_mono (Kd.V_far (p := ⟨gb375, 1, none⟩) (Kd.V_far (p := ⟨gb375, 0, none⟩) (Kd.V_mono HO_404000.out (fun k_ hk => (⟨hk, hk.2.1⟩ : _ ∧ k_ ≠ gb375))) (fun _ hk => hk.2) (.slice Ao59 t395.length co59)) (fun _ hk => hk.2) (.int .i64 t398)) (fun _ hk => ⟨hk.1.1, hk.1.2.1⟩)⟩, ⟨by (with_reducible repeat (first | refine blk_drewN ?_ _ | refine blk_drew ?_ | refine blk_alloc ?_ _)); refine blk_far ?_ NB361_375.out _; (with_reducible repeat (first | refine blk_drewN ?_ _ | refine blk_drew ?_ | refine blk_alloc ?_ _)); refine blk_far ?_ NB361_375.out _; (with_reducible repeat (first | refine blk_drewN ?_ _ | refine blk_drew ?_ | refine blk_alloc ?_ _)); exact BK361.out⟩, ⟨by (with_reducible repeat (first | refine blk_drewN ?_ _ | refine blk_drew ?_ | refine blk_alloc ?_ _)); refine blk_put (cs := #[.slice Ao59 t395.length co59, .int .i64 x376001_2]) ?_ 1 _ rfl; (with_reducible repeat (first | refine blk_drewN ?_ _ | refine blk_drew ?_ | refine blk_alloc ?_ _)); refine blk_put (cs := #[.slice Ao53 x376000_2.length co53, .int .i64 x376001_2]) ?_ 0 _ rfl; (with_reducible repeat (first | refine blk_drewN ?_ _ | refine blk_drew ?_ | refine blk_alloc ?_ _)); exact BK375.out⟩, ⟨by repeat (first | (with_reducible first | exact HB.out | apply below_alloc | apply pw_below_drewN | apply below_drew1 | refine below_set ?_ GE361.out | refine below_set ?_ GE375.out | refine below_set ?_ GE403.out | refine below_set ?_ GE404.out) | exact HB.out)⟩⟩
                      · rw [if_neg c162] at H
                        have c162b0 : (t398 == t399) = false := beq_eq_false_iff_ne.mpr c162
                        have c162b1 : (t398 != t399) = true := bne_iff_ne.mpr c162
                        obtain rfl := Option.some.inj H
                        have hnb192 := NB404_361.out
                        have hnc192 := NB361_404.out
                        have hnb193 := NB404_375.out
                        have hnc193 := NB375_404.out
                        have hnb194 := NB404_403.out
                        have hnc194 := NB403_404.out
                        have hcz195_0 : wc.cell? ⟨gb404, 0, none⟩ = some (.int .i64 t399) := (blk_cell BK404.out 0).trans rfl
                        have hcz195_1 : wc.cell? ⟨gb404, 1, none⟩ = some (.bool false) := (blk_cell BK404.out 1).trans rfl
                        have hcz195_2 : wc.cell? ⟨gb404, 2, none⟩ = some (.bool t401) := (blk_cell BK404.out 2).trans rfl
                        have hfz195_0 := blk_frozen BK404.out 0
                        have hfz195_1 := blk_frozen BK404.out 1
                        have hfz195_2 := blk_frozen BK404.out 2
                        have hnb196 := NB403_361.out
                        have hnc196 := NB361_403.out
                        have hnb197 := NB403_375.out
                        have hnc197 := NB375_403.out
                        have hcz198_0 : wc.cell? ⟨gb403, 0, none⟩ = some (.slice Ao59 t395.length co59) := (blk_cell BK403.out 0).trans rfl
                        have hcz198_1 : wc.cell? ⟨gb403, 1, none⟩ = some (.int .i64 t398) := (blk_cell BK403.out 1).trans rfl
                        have hfz198_0 := blk_frozen BK403.out 0
                        have hfz198_1 := blk_frozen BK403.out 1
                        go_wp2
                        go_ret
                        exact ⟨by first | rfl | (simp [errW_none, errW_some] <;> rfl) | (simp [*, errW_none, errW_some] <;> rfl), by repeat (first | (with_reducible first | exact HB.out | apply below_alloc | apply pw_below_drewN | apply below_drew1 | refine below_set ?_ GE361.out | refine below_set ?_ GE375.out | refine below_set ?_ GE403.out | refine below_set ?_ GE404.out) | exact HB.out)⟩
            · rw [if_neg c47] at H
              have c47b0 : decide (0 < x5_2) = false := decide_eq_false c47
              clear c47
              replace H := Option.bind_eq_some_iff.mp H
              obtain ⟨⟨t377, t380⟩, A1990, H⟩ := H
              replace H : ((lane_Tick.f k2 t377 t380).bind fun bt381 => (if bt381.2.2.2.2.2 = 0 then (if (bt381.2.2.1 == (-1) && (!bt381.2.2.2.1 && (!bt381.2.2.2.2.1))) = true then (if (bt381.1.length : Int) = 0 then (some ((x376000_2.length : Int) == 0)) else (none)) else (none)) else (none))) = some r := H
              have A199 := Aside0.mk A1990
              clear A1990
              replace H := Option.bind_eq_some_iff.mp H
              obtain ⟨⟨t381, t384, t385, t386, t387, t388⟩, A2000, H⟩ := H
              replace H : (if t388 = 0 then (if (t385 == (-1) && (!t386 && (!t387))) = true then (if (t381.length : Int) = 0 then (some ((x376000_2.length : Int) == 0)) else (none)) else (none)) else (none)) = some r := H
              have A200 := Aside0.mk A2000
              clear A2000
              by_cases c201 : t388 = 0
              · rw [if_pos c201] at H
                have c201b0 : (t388 == 0) = true := beq_iff_eq.mpr c201
                have c201b1 : (t388 != 0) = false := bne_eq_false_iff_eq.mpr c201
                clear c201
                by_cases c202 : (t385 == (-1) && (!t386 && (!t387))) = true
                · rw [if_pos c202] at H
                  have c202b0 : (t385 == (-1) && (!t386 && (!t387))) = true := c202
                  (try (have c202b1 : decide (t385 = (-1) && (!t386 && (!t387))) = true := by simpa using c202))
                  (try (have c202b2 : (t385 == (-1) && (!t386 && (!t387))) = true := by simpa using c202))
                  clear c202
                  by_cases c203 : (t381.length : Int) = 0
                  · rw [if_pos c203] at H
                    have c203b0 : ((t381.length : Int) == 0) = true := beq_iff_eq.mpr c203
                    have c203b1 : ((t381.length : Int) != 0) = false := bne_eq_false_iff_eq.mpr c203
                    clear c203
                    obtain rfl := Option.some.inj H
                    have hnb204 := NB375_361.out
                    have hnc204 := NB361_375.out
                    have hcz205_0 : wr.cell? ⟨gb375, 0, none⟩ = some (u376000) := (blk_cell BK375.out 0).trans rfl
                    have hcz205_1 : wr.cell? ⟨gb375, 1, none⟩ = some (.int .i64 x376001_2) := (blk_cell BK375.out 1).trans rfl
                    have hfz205_0 := blk_frozen BK375.out 0
                    have hfz205_1 := blk_frozen BK375.out 1
                    obtain ⟨Ao206, co206, eo206⟩ := Kd.V_slice HO_376000.out
                    subst eo206
                    go_wp2_with (first | ((with_reducible refine gate_callee (f := 11) rfl ?_); refine goesL_ (some 111) rfl rfl Try.func11 (by kernel_rfl) rfl #[.agg #[.slice Ao206 x376000_2.length co206, .int .i64 x376001_2]] rfl (by (try simp only [List.map_toArray, List.map_cons, List.map_nil]); first | done | rfl | (simp only [List.length_drop, List.length_take]; rfl)) ?_; (with_reducible refine (trefoillaw18_Own.calls k2 _ _ x376000_2 x376001_2 t377 t380 _ ?side1 ?side2 A199.out).mono ?_); (case side1 => repeat (first | exact (Kd.V_reads' HO_376000.out).2.2 | (with_reducible refine Kd.C_alloc ?_ _) | (with_reducible refine Kd.C_drewN ?_ _) | (with_reducible refine Kd.C_drew ?_))); (case side2 => exact (Kd.V_reads' HO_376000.out).2.1); rintro e w207 ⟨v378, rfl, ho0, hb⟩; refine ⟨_, rfl, ?_⟩; have n0_ := Aside0.mk (Kd.V_elder' (by (with_reducible repeat (first | apply Kd.V_alloc | apply Kd.V_drewN | apply Kd.V_drew)); exact HO_376000.out) (Kd.S_base ho0) hb); have n1_ := Aside0.mk (Kd.S_lower ho0 (below_size (by repeat (first | (with_reducible first | exact HB.out | apply below_alloc | apply pw_below_drewN | apply below_drew1 | refine below_set ?_ GE361.out | refine below_set ?_ GE375.out) | exact HB.out)))); have n2_ := Aside0.mk (blk_below (g := gb361) (o := .cells #[.slice A0_0 l0_0.length c0_0, .int .i64 a0_1] 24 (0, 0)) (by (with_reducible repeat (first | refine blk_drewN ?_ _ | refine blk_drew ?_ | refine blk_alloc ?_ _)); exact BK361.out) hb); have n3_ := Aside0.mk (blk_below (g := gb375) (o := .cells #[.slice Ao206 x376000_2.length co206, .int .i64 x376001_2] 24 (0, 0)) (by (with_reducible repeat (first | refine blk_drewN ?_ _ | refine blk_drew ?_ | refine blk_alloc ?_ _)); exact BK375.out) hb); have n4_ := Aside0.mk (below_step (by repeat (first | (with_reducible first | exact HB.out | apply below_alloc | apply pw_below_drewN | apply below_drew1 | refine below_set ?_ GE361.out | refine below_set ?_ GE375.out) | exact HB.out)) hb); clear HO_376000; clear BK361; clear BK375; clear HB; have HO_376000 := n0_; have HO379 := n1_; have BK361 := n2_; have BK375 := n3_; have HB := n4_; clear n0_ n1_ n2_ n3_ n4_; (try clear hb); (try clear hb2); (try clear hk); (try clear hi); (try clear ho0); obtain ⟨Ao208, co208, eo208⟩ := Kd.S_slice HO379.out; subst eo208) | ((with_reducible refine gate_callee (f := 15) rfl ?_); refine goesL_ (some 112) rfl rfl Try.func15 (by kernel_rfl) rfl #[.agg #[.slice Ao208 t377.length co208, .int .i64 t380]] rfl (by (try simp only [List.map_toArray, List.map_cons, List.map_nil]); first | done | rfl | (simp only [List.length_drop, List.length_take]; rfl)) ?_; (with_reducible refine (lane_Tick.calls k2 _ _ t377 t380 t381 t384 t385 t386 t387 t388 _ ?side1 ?side2 A200.out).mono ?_); (case side1 => repeat (first | exact (Kd.S_reads' HO379.out).2.2 | (with_reducible refine Kd.C_alloc ?_ _) | (with_reducible refine Kd.C_drewN ?_ _) | (with_reducible refine Kd.C_drew ?_))); (case side2 => exact (Kd.S_reads' HO379.out).2.1); rintro e w209 ⟨v382, rfl, ho0, hb⟩; refine ⟨_, rfl, ?_⟩; have n0_ := Aside0.mk (Kd.V_below (by (with_reducible repeat (first | apply Kd.V_alloc | apply Kd.V_drewN | apply Kd.V_drew)); exact HO_376000.out) hb); have n1_ := Aside0.mk (Kd.S_below (by (with_reducible repeat (first | apply Kd.S_alloc | apply Kd.S_drewN | apply Kd.S_drew)); exact HO379.out) hb); have n2_ := Aside0.mk (Kd.V_lower (Kd.V_mono (ok' := fun k_ => some k_ ≠ (.slice Ao208 t377.length co208 : Value).ownBlock ∧ k_ ≠ gb361 ∧ k_ ≠ gb375) ho0 (fun k_ hk_ => ⟨(Kd.fresh' (Kd.S_lt (by (with_reducible repeat (first | apply Kd.S_alloc | apply Kd.S_drewN | apply Kd.S_drew)); exact HO379.out)) k_ hk_), (Kd.freshB (g := gb361) (o := .cells #[.slice A0_0 l0_0.length c0_0, .int .i64 a0_1] 24 (0, 0)) (by (with_reducible repeat (first | refine blk_drewN ?_ _ | refine blk_drew ?_ | refine blk_alloc ?_ _)); exact BK361.out) k_ hk_), (Kd.freshB (g := gb375) (o := .cells #[.slice Ao206 x376000_2.length co206, .int .i64 x376001_2] 24 (0, 0)) (by (with_reducible repeat (first | refine blk_drewN ?_ _ | refine blk_drew ?_ | refine blk_alloc ?_ _)); exact BK375.out) k_ hk_)⟩)) (below_size (by repeat (first | (with_reducible first | exact HB.out | apply below_alloc | apply pw_below_drewN | apply below_drew1 | refine below_set ?_ GE361.out | refine below_set ?_ GE375.out) | exact HB.out)))); have n3_ := Aside0.mk (blk_below (g := gb361) (o := .cells #[.slice A0_0 l0_0.length c0_0, .int .i64 a0_1] 24 (0, 0)) (by (with_reducible repeat (first | refine blk_drewN ?_ _ | refine blk_drew ?_ | refine blk_alloc ?_ _)); exact BK361.out) hb); have n4_ := Aside0.mk (blk_below (g := gb375) (o := .cells #[.slice Ao206 x376000_2.length co206, .int .i64 x376001_2] 24 (0, 0)) (by (with_reducible repeat (first | refine blk_drewN ?_ _ | refine blk_drew ?_ | refine blk_alloc ?_ _)); exact BK375.out) hb); have n5_ := Aside0.mk (below_step (by repeat (first | (with_reducible first | exact HB.out | apply below_alloc | apply pw_below_drewN | apply below_drew1 | refine below_set ?_ GE361.out | refine below_set ?_ GE375.out) | exact HB.out)) hb); clear HO_376000; clear HO379; clear BK361; clear BK375; clear HB; have HO_376000 := n0_; have HO379 := n1_; have HO383 := n2_; have BK361 := n3_; have BK375 := n4_; have HB := n5_; clear n0_ n1_ n2_ n3_ n4_ n5_; (try clear hb); (try clear hb2); (try clear hk); (try clear hi); (try clear ho0)) | ((with_reducible refine gate_dst (N := 9) rfl ?_); (try (refine gate_guard (by rfl) ?_; dsimp only)); refine box_event ?hg (N := 9) ?hd (cs := #[.slice none 0 0, .int .i64 0]) (t := 24) ?hr ?_; (case hd => rfl); (case hg => rfl); (case hr => first | (go_simp; done) | (go_simp; rfl)); intro gb389 hg w210 hbox hb; have n0_ := Aside0.mk (Kd.V_below (Kd.V_elderB (by (with_reducible repeat (first | apply Kd.V_alloc | apply Kd.V_drewN | apply Kd.V_drew)); exact HO_376000.out) gb389 (Nat.le_of_eq hg.symm)) hb); have n1_ := Aside0.mk (Kd.S_below (by (with_reducible repeat (first | apply Kd.S_alloc | apply Kd.S_drewN | apply Kd.S_drew)); exact HO379.out) hb); have n2_ := Aside0.mk (Kd.V_below (Kd.V_elderB (by (with_reducible repeat (first | apply Kd.V_alloc | apply Kd.V_drewN | apply Kd.V_drew)); exact HO383.out) gb389 (Nat.le_of_eq hg.symm)) hb); have n3_ := Aside0.mk (blk_below (g := gb361) (o := .cells #[.slice A0_0 l0_0.length c0_0, .int .i64 a0_1] 24 (0, 0)) (by (with_reducible repeat (first | refine blk_drewN ?_ _ | refine blk_drew ?_ | refine blk_alloc ?_ _)); exact BK361.out) hb); have n4_ := Aside0.mk (blk_below (g := gb375) (o := .cells #[.slice Ao206 x376000_2.length co206, .int .i64 x376001_2] 24 (0, 0)) (by (with_reducible repeat (first | refine blk_drewN ?_ _ | refine blk_drew ?_ | refine blk_alloc ?_ _)); exact BK375.out) hb); have n5_ := Aside0.mk (below_step (by repeat (first | (with_reducible first | exact HB.out | apply below_alloc | apply pw_below_drewN | apply below_drew1 | refine below_set ?_ GE361.out | refine below_set ?_ GE375.out) | exact HB.out)) hb); have n6_ := Aside0.mk (hbox); have n7_ := Aside0.mk ((by rw [hg]; exact (below_size (by repeat (first | (with_reducible first | exact HB.out | apply below_alloc | apply pw_below_drewN | apply below_drew1 | refine below_set ?_ GE361.out | refine below_set ?_ GE375.out) | exact HB.out))) : w.heap.size ≤ gb389)); have n8_ := Aside0.mk ((by rw [hg]; exact (below_size (by repeat (first | (with_reducible first | exact HB.out | apply below_alloc | apply pw_below_drewN | apply below_drew1 | refine below_set ?_ GE361.out | refine below_set ?_ GE375.out) | exact HB.out))) : w.heap.size ≤ gb389)); have n9_ := Aside0.mk ((by rw [hg]; exact Nat.ne_of_lt (blk_lt (g := gb361) (o := .cells #[.slice A0_0 l0_0.length c0_0, .int .i64 a0_1] 24 (0, 0)) (by (with_reducible repeat (first | refine blk_drewN ?_ _ | refine blk_drew ?_ | refine blk_alloc ?_ _)); exact BK361.out)) : gb361 ≠ gb389)); have n10_ := Aside0.mk ((by rw [hg]; exact Nat.ne_of_gt (blk_lt (g := gb361) (o := .cells #[.slice A0_0 l0_0.length c0_0, .int .i64 a0_1] 24 (0, 0)) (by (with_reducible repeat (first | refine blk_drewN ?_ _ | refine blk_drew ?_ | refine blk_alloc ?_ _)); exact BK361.out)) : gb389 ≠ gb361)); have n11_ := Aside0.mk ((by rw [hg]; exact Nat.ne_of_lt (blk_lt (g := gb375) (o := .cells #[.slice Ao206 x376000_2.length co206, .int .i64 x376001_2] 24 (0, 0)) (by (with_reducible repeat (first | refine blk_drewN ?_ _ | refine blk_drew ?_ | refine blk_alloc ?_ _)); exact BK375.out)) : gb375 ≠ gb389)); have n12_ := Aside0.mk ((by rw [hg]; exact Nat.ne_of_gt (blk_lt (g := gb375) (o := .cells #[.slice Ao206 x376000_2.length co206, .int .i64 x376001_2] 24 (0, 0)) (by (with_reducible repeat (first | refine blk_drewN ?_ _ | refine blk_drew ?_ | refine blk_alloc ?_ _)); exact BK375.out)) : gb389 ≠ gb375)); clear HO_376000; clear HO379; clear HO383; clear BK361; clear BK375; clear HB; have HO_376000 := n0_; have HO379 := n1_; have HO383 := n2_; have BK361 := n3_; have BK375 := n4_; have HB := n5_; have BK389 := n6_; have GW389 := n7_; have GE389 := n8_; have NB361_389 := n9_; have NB389_361 := n10_; have NB375_389 := n11_; have NB389_375 := n12_; clear n0_ n1_ n2_ n3_ n4_ n5_ n6_ n7_ n8_ n9_ n10_ n11_ n12_; clear hb hbox hg) | ((with_reducible refine gate_dst (N := 10) rfl ?_); (try (refine gate_guard (by rfl) ?_; dsimp only)); refine box_event ?hg (N := 10) ?hd (cs := #[.int .i64 0, .bool false, .bool false]) (t := 36) ?hr ?_; (case hd => rfl); (case hg => rfl); (case hr => first | (go_simp; done) | (go_simp; rfl)); intro gb390 hg w211 hbox hb; have n0_ := Aside0.mk (Kd.V_below (Kd.V_elderB (by (with_reducible repeat (first | apply Kd.V_alloc | apply Kd.V_drewN | apply Kd.V_drew)); exact HO_376000.out) gb390 (Nat.le_of_eq hg.symm)) hb); have n1_ := Aside0.mk (Kd.S_below (by (with_reducible repeat (first | apply Kd.S_alloc | apply Kd.S_drewN | apply Kd.S_drew)); exact HO379.out) hb); have n2_ := Aside0.mk (Kd.V_below (Kd.V_elderB (by (with_reducible repeat (first | apply Kd.V_alloc | apply Kd.V_drewN | apply Kd.V_drew)); exact HO383.out) gb390 (Nat.le_of_eq hg.symm)) hb); have n3_ := Aside0.mk (blk_below (g := gb361) (o := .cells #[.slice A0_0 l0_0.length c0_0, .int .i64 a0_1] 24 (0, 0)) (by (with_reducible repeat (first | refine blk_drewN ?_ _ | refine blk_drew ?_ | refine blk_alloc ?_ _)); exact BK361.out) hb); have n4_ := Aside0.mk (blk_below (g := gb375) (o := .cells #[.slice Ao206 x376000_2.length co206, .int .i64 x376001_2] 24 (0, 0)) (by (with_reducible repeat (first | refine blk_drewN ?_ _ | refine blk_drew ?_ | refine blk_alloc ?_ _)); exact BK375.out) hb); have n5_ := Aside0.mk (blk_below (g := gb389) (o := .cells #[.slice none 0 0, .int .i64 0] 24 (0, 0)) (by (with_reducible repeat (first | refine blk_drewN ?_ _ | refine blk_drew ?_ | refine blk_alloc ?_ _)); exact BK389.out) hb); have n6_ := Aside0.mk (below_step (by repeat (first | (with_reducible first | exact HB.out | apply below_alloc | apply pw_below_drewN | apply below_drew1 | refine below_set ?_ GE361.out | refine below_set ?_ GE375.out | refine below_set ?_ GE389.out) | exact HB.out)) hb); have n7_ := Aside0.mk (hbox); have n8_ := Aside0.mk ((by rw [hg]; exact (below_size (by repeat (first | (with_reducible first | exact HB.out | apply below_alloc | apply pw_below_drewN | apply below_drew1 | refine below_set ?_ GE361.out | refine below_set ?_ GE375.out | refine below_set ?_ GE389.out) | exact HB.out))) : w.heap.size ≤ gb390)); have n9_ := Aside0.mk ((by rw [hg]; exact (below_size (by repeat (first | (with_reducible first | exact HB.out | apply below_alloc | apply pw_below_drewN | apply below_drew1 | refine below_set ?_ GE361.out | refine below_set ?_ GE375.out | refine below_set ?_ GE389.out) | exact HB.out))) : w.heap.size ≤ gb390)); have n10_ := Aside0.mk ((by rw [hg]; exact Nat.ne_of_lt (blk_lt (g := gb361) (o := .cells #[.slice A0_0 l0_0.length c0_0, .int .i64 a0_1] 24 (0, 0)) (by (with_reducible repeat (first | refine blk_drewN ?_ _ | refine blk_drew ?_ | refine blk_alloc ?_ _)); exact BK361.out)) : gb361 ≠ gb390)); have n11_ := Aside0.mk ((by rw [hg]; exact Nat.ne_of_gt (blk_lt (g := gb361) (o := .cells #[.slice A0_0 l0_0.length c0_0, .int .i64 a0_1] 24 (0, 0)) (by (with_reducible repeat (first | refine blk_drewN ?_ _ | refine blk_drew ?_ | refine blk_alloc ?_ _)); exact BK361.out)) : gb390 ≠ gb361)); have n12_ := Aside0.mk ((by rw [hg]; exact Nat.ne_of_lt (blk_lt (g := gb375) (o := .cells #[.slice Ao206 x376000_2.length co206, .int .i64 x376001_2] 24 (0, 0)) (by (with_reducible repeat (first | refine blk_drewN ?_ _ | refine blk_drew ?_ | refine blk_alloc ?_ _)); exact BK375.out)) : gb375 ≠ gb390)); have n13_ := Aside0.mk ((by rw [hg]; exact Nat.ne_of_gt (blk_lt (g := gb375) (o := .cells #[.slice Ao206 x376000_2.length co206, .int .i64 x376001_2] 24 (0, 0)) (by (with_reducible repeat (first | refine blk_drewN ?_ _ | refine blk_drew ?_ | refine blk_alloc ?_ _)); exact BK375.out)) : gb390 ≠ gb375)); have n14_ := Aside0.mk ((by rw [hg]; exact Nat.ne_of_lt (blk_lt (g := gb389) (o := .cells #[.slice none 0 0, .int .i64 0] 24 (0, 0)) (by (with_reducible repeat (first | refine blk_drewN ?_ _ | refine blk_drew ?_ | refine blk_alloc ?_ _)); exact BK389.out)) : gb389 ≠ gb390)); have n15_ := Aside0.mk ((by rw [hg]; exact Nat.ne_of_gt (blk_lt (g := gb389) (o := .cells #[.slice none 0 0, .int .i64 0] 24 (0, 0)) (by (with_reducible repeat (first | refine blk_drewN ?_ _ | refine blk_drew ?_ | refine blk_alloc ?_ _)); exact BK389.out)) : gb390 ≠ gb389)); clear HO_376000; clear HO379; clear HO383; clear BK361; clear BK375; clear BK389; clear HB; have HO_376000 := n0_; have HO379 := n1_; have HO383 := n2_; have BK361 := n3_; have BK375 := n4_; have BK389 := n5_; have HB := n6_; have BK390 := n7_; have GW390 := n8_; have GE390 := n9_; have NB361_390 := n10_; have NB390_361 := n11_; have NB375_390 := n12_; have NB390_375 := n13_; have NB389_390 := n14_; have NB390_389 := n15_; clear n0_ n1_ n2_ n3_ n4_ n5_ n6_ n7_ n8_ n9_ n10_ n11_ n12_ n13_ n14_ n15_; clear hb hbox hg; obtain ⟨Ao212, co212, eo212⟩ := Kd.V_slice HO383.out; subst eo212; have hnb213 := NB389_361.out; have hnc213 := NB361_389.out; have hnb214 := NB389_375.out; have hnc214 := NB375_389.out; have hnb215 := NB389_390.out; have hnc215 := NB390_389.out; have hcz216_0 : w211.cell? ⟨gb389, 0, none⟩ = some (.slice none 0 0) := (blk_cell BK389.out 0).trans rfl; have hcz216_1 : w211.cell? ⟨gb389, 1, none⟩ = some (.int .i64 0) := (blk_cell BK389.out 1).trans rfl; have hfz216_0 := blk_frozen BK389.out 0; have hfz216_1 := blk_frozen BK389.out 1; have hnb217 := NB390_361.out; have hnc217 := NB361_390.out; have hnb218 := NB390_375.out; have hnc218 := NB375_390.out; have hcz219_0 : w211.cell? ⟨gb390, 0, none⟩ = some (.int .i64 0) := (blk_cell BK390.out 0).trans rfl; have hcz219_1 : w211.cell? ⟨gb390, 1, none⟩ = some (.bool false) := (blk_cell BK390.out 1).trans rfl; have hcz219_2 : w211.cell? ⟨gb390, 2, none⟩ = some (.bool false) := (blk_cell BK390.out 2).trans rfl; have hfz219_0 := blk_frozen BK390.out 0; have hfz219_1 := blk_frozen BK390.out 1; have hfz219_2 := blk_frozen BK390.out 2; have hcz220_0 : w211.cell? ⟨gb375, 0, none⟩ = some (.slice Ao206 x376000_2.length co206) := (blk_cell BK375.out 0).trans rfl; have hcz220_1 : w211.cell? ⟨gb375, 1, none⟩ = some (.int .i64 x376001_2) := (blk_cell BK375.out 1).trans rfl; have hfz220_0 := blk_frozen BK375.out 0; have hfz220_1 := blk_frozen BK375.out 1))
                    go_ret
                    exact ⟨by first | rfl | (simp [errW_none, errW_some] <;> rfl) | (simp [*, errW_none, errW_some] <;> rfl), by repeat (first | (with_reducible first | exact HB.out | apply below_alloc | apply pw_below_drewN | apply below_drew1 | refine below_set ?_ GE361.out | refine below_set ?_ GE375.out | refine below_set ?_ GE389.out | refine below_set ?_ GE390.out) | exact HB.out)⟩
                  · rw [if_neg c203] at H
                    exact absurd H (by simp)
                · rw [if_neg c202] at H
                  exact absurd H (by simp)
              · rw [if_neg c201] at H
                exact absurd H (by simp)
end Go.Proofs.Yteodhffgnkdcfaa.Q
