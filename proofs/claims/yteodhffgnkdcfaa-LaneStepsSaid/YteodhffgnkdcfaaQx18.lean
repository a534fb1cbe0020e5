import Derived.Test.YteodhffgnkdcfaaShort
import Derived.Test.YteodhffgnkdcfaaQx0
namespace Go.Proofs.Yteodhffgnkdcfaa.Q
open Go.RowKit Go.Proofs.YteodhffgnkdcfaaW.PrintWords Go.Proofs.YteodhffgnkdcfaaW.PrintLast Go.Proofs.YteodhffgnkdcfaaW.PrintMore
attribute [local go_sem] max2_int min2_int max_two min_two max_three min_three max_four min_four
set_option linter.unusedVariables false
set_option linter.unusedSimpArgs false
/-! ### trefoillaw18_Own: function 11 -/
def trefoillaw18_Own.l0 : Nat → Int → List (S27) → Int → List (S27) → Int → Option ((List (S27)) × Int)
 | 0, _, _, _, _, _ => none
 | k + 1, x4, x198000, x198001, x200000, x200001 => if x4 < (x198000.length : Int) then (if 0 ≤ x4 then ((some (([] : List Int) : List Int)).bind fun y202 => (if y202.length + ((rd_T27 x198000 x4).f2).length < 17592186044416 then (if x200000.length < 3518437208883 then (trefoillaw18_Own.l0 k (wrap64 (x4 + 1)) x198000 x198001 (x200000 ++ [(⟨(rd_T27 x198000 x4).f0, (rd_T27 x198000 x4).f1, (y202 ++ ((rd_T27 x198000 x4).f2))⟩ : S27)]) x200001) else (none)) else (none))) else (none)) else (some (x200000, x200001))
def trefoillaw18_Own.f (k : Nat) (l0_0 : List (S27)) (a0_1 : Int) : Option ((List (S27)) × Int) := trefoillaw18_Own.l0 k 0 l0_0 a0_1 ([] : List (S27)) a0_1
theorem trefoillaw18_Own.mono_l : ∀ k, (∀ y0 y1 y2 y3 y4, LeO (trefoillaw18_Own.l0 k y0 y1 y2 y3 y4) (trefoillaw18_Own.l0 (k + 1) y0 y1 y2 y3 y4))
 | 0 => fun _ _ _ _ _ r h => by simp [trefoillaw18_Own.l0] at h
 | k + 1 => by
  have ih0 := trefoillaw18_Own.mono_l k
  ·
   intro y0 y1 y2 y3 y4
   unfold trefoillaw18_Own.l0
   repeat' first
   | (with_reducible exact ih0 _ _ _ _ _)
   | (with_reducible exact LeO.refl _)
   | (with_reducible exact LeO.none _)
   | (with_reducible refine LeO.ite ?_ ?_)
   | (with_reducible refine LeO.bind ?_ (fun _ => ?_))
   | exact ih0 _ _ _ _ _
   | exact LeO.none _
   | refine LeO.ite ?_ ?_
   | refine LeO.bind ?_ (fun _ => ?_)
theorem trefoillaw18_Own.mono : ∀ a0 a1 k, LeO (trefoillaw18_Own.f k a0 a1) (trefoillaw18_Own.f (k + 1) a0 a1) := by
 intro a0 a1 k
 have ih0 := trefoillaw18_Own.mono_l k
 unfold trefoillaw18_Own.f
 repeat' first
  | (with_reducible exact ih0 _ _ _ _ _)
  | (with_reducible exact LeO.refl _)
  | (with_reducible exact LeO.none _)
  | (with_reducible refine LeO.ite ?_ ?_)
  | (with_reducible refine LeO.bind ?_ (fun _ => ?_))
  | exact ih0 _ _ _ _ _
  | exact LeO.none _
  | refine LeO.ite ?_ ?_
  | refine LeO.bind ?_ (fun _ => ?_)
set_option maxHeartbeats 8000000 in
set_option maxRecDepth 100000 in
theorem trefoillaw18_Own.calls (k : Nat) (A0_0 : Option Addr) (c0_0 : Nat) (l0_0 : List (S27)) (a0_1 : Int) (r1 : List (S27)) (r2 : Int) (w : World) (hr0_0 : Kd.C k27 w A0_0 l0_0.length l0_0) (hc0_0 : l0_0.length ≤ c0_0) (h : trefoillaw18_Own.f k l0_0 a0_1 = some (r1, r2)) :
 Calls Try.prog 11 #[.agg #[.slice A0_0 l0_0.length c0_0, .int .i64 a0_1]] w fun e w' => ∃ v0_ : Value, e = .returned (.agg #[v0_, .int .i64 r2]) ∧ Kd.S k27 27 w' w.heap.size (fun _ => True) v0_ r1 ∧ Below w.heap.size w w' := by
 have hu24 := Try.underlying24
 have hu27 := Try.underlying27
 have HR0_0 := Aside0.mk hr0_0
 have HC0_0 := Aside0.mk hc0_0
 clear hr0_0 hc0_0
 have HB := Aside0.mk (Below.refl w.heap.size w)
 have H : (trefoillaw18_Own.l0 k 0 l0_0 a0_1 ([] : List (S27)) a0_1) = some (r1, r2) := h
 clear h
 have H' := Aside0.mk H
 clear H
 go_enter Try.func11, Try.ntmps11
 go_wp2_with (first | ((with_reducible refine gate_dst (N := 1) rfl ?_); refine box_event ?hg (N := 1) ?hd (cs := #[.slice A0_0 l0_0.length c0_0, .int .i64 a0_1]) (t := 24) ?hr ?_; (case hd => rfl); (case hg => rfl); (case hr => first | (go_simp; done) | (go_simp; rfl)); intro gb197 hg w2 hbox hb; have n0_ := Aside0.mk (below_step bw_ hb); have n1_ := Aside0.mk (hbox); have n2_ := Aside0.mk ((by rw [hg]; exact (below_size bw_) : w.heap.size ≤ gb197)); have n3_ := Aside0.mk ((by rw [hg]; exact (below_size bw_) : w.heap.size ≤ gb197)); clear HB; have HB := n0_; have BK197 := n1_; have GW197 := n2_; have GE197 := n3_; clear n0_ n1_ n2_ n3_; clear hb hbox hg) | ((with_reducible refine gate_dst (N := 2) rfl ?_); refine box_event ?hg (N := 2) ?hd (cs := #[.slice none 0 0, .int .i64 0]) (t := 24) ?hr ?_; (case hd => rfl); (case hg => rfl); (case hr => first | (go_simp; done) | (go_simp; rfl)); intro gb198 hg w3 hbox hb; have n0_ := Aside0.mk (blk_below (bk_ BK197.out) hb); have n1_ := Aside0.mk (below_step bx_ hb); have n2_ := Aside0.mk (hbox); have n3_ := Aside0.mk ((by rw [hg]; exact (below_size bx_) : w.heap.size ≤ gb198)); have n4_ := Aside0.mk ((by rw [hg]; exact (below_size bx_) : w.heap.size ≤ gb198)); have n5_ := Aside0.mk ((by rw [hg]; exact Nat.ne_of_lt (blk_lt (bk_ BK197.out)) : gb197 ≠ gb198)); have n6_ := Aside0.mk ((by rw [hg]; exact Nat.ne_of_gt (blk_lt (bk_ BK197.out)) : gb198 ≠ gb197)); clear BK197; clear HB; have BK197 := n0_; have HB := n1_; have BK198 := n2_; have GW198 := n3_; have GE198 := n4_; have NB197_198 := n5_; have NB198_197 := n6_; clear n0_ n1_ n2_ n3_ n4_ n5_ n6_; clear hb hbox hg; have hnb4 := NB197_198.out; have hnc4 := NB198_197.out; have hcz5_0 : w3.cell? ⟨gb197, 0, none⟩ = some (.slice A0_0 l0_0.length c0_0) := bcx_ BK197.out 0; have hcz5_1 : w3.cell? ⟨gb197, 1, none⟩ = some (.int .i64 a0_1) := bcx_ BK197.out 1; have hfz5_0 := blk_frozen BK197.out 0; have hfz5_1 := blk_frozen BK197.out 1) | ((with_reducible refine gate_dst (N := 3) rfl ?_); refine box_event ?hg (N := 3) ?hd (cs := #[.slice none 0 0, .int .i64 0]) (t := 24) ?hr ?_; (case hd => rfl); (case hg => rfl); (case hr => first | (go_simp; done) | (go_simp; rfl)); intro gb199 hg w6 hbox hb; have n0_ := Aside0.mk (blk_below (bk_ BK197.out) hb); have n1_ := Aside0.mk (blk_below (bk_ BK198.out) hb); have n2_ := Aside0.mk (below_step bx_ hb); have n3_ := Aside0.mk (hbox); have n4_ := Aside0.mk ((by rw [hg]; exact (below_size bx_) : w.heap.size ≤ gb199)); have n5_ := Aside0.mk ((by rw [hg]; exact (below_size bx_) : w.heap.size ≤ gb199)); have n6_ := Aside0.mk ((by rw [hg]; exact Nat.ne_of_lt (blk_lt (bk_ BK197.out)) : gb197 ≠ gb199)); have n7_ := Aside0.mk ((by rw [hg]; exact Nat.ne_of_gt (blk_lt (bk_ BK197.out)) : gb199 ≠ gb197)); have n8_ := Aside0.mk ((by rw [hg]; exact Nat.ne_of_lt (blk_lt (bk_ BK198.out)) : gb198 ≠ gb199)); have n9_ := Aside0.mk ((by rw [hg]; exact Nat.ne_of_gt (blk_lt (bk_ BK198.out)) : gb199 ≠ gb198)); clear BK197; clear BK198; clear HB; have BK197 := n0_; have BK198 := n1_; have HB := n2_; have BK199 := n3_; have GW199 := n4_; have GE199 := n5_; have NB197_199 := n6_; have NB199_197 := n7_; have NB198_199 := n8_; have NB199_198 := n9_; clear n0_ n1_ n2_ n3_ n4_ n5_ n6_ n7_ n8_ n9_; clear hb hbox hg; have hnb7 := NB199_197.out; have hnc7 := NB197_199.out; have hnb8 := NB199_198.out; have hnc8 := NB198_199.out; have hcz9_0 : w6.cell? ⟨gb199, 0, none⟩ = some (.slice none 0 0) := bcx_ BK199.out 0; have hcz9_1 : w6.cell? ⟨gb199, 1, none⟩ = some (.int .i64 0) := bcx_ BK199.out 1; have hfz9_0 := blk_frozen BK199.out 0; have hfz9_1 := blk_frozen BK199.out 1))
 go_loopg [4] k (fun kq v4 w' => ∃ (x4_1 : Int) (x200000_1 : List (S27)) (u200000 : Value), v4 = .int .i64 x4_1 ∧ Aside0 (trefoillaw18_Own.l0 kq x4_1 l0_0 a0_1 x200000_1 a0_1 = some (r1, r2)) ∧ Aside0 (kq ≤ k) ∧ Aside0 (Kd.S k27 27 w' w.heap.size (fun _ => True) u200000 x200000_1) ∧ Aside0 (w'.heap[gb197]? = some (.cells #[(.slice A0_0 l0_0.length c0_0), .int .i64 a0_1] 24 (0, 0))) ∧ Aside0 (w'.heap[gb198]? = some (.cells #[(.slice none 0 0), .int .i64 0] 24 (0, 0))) ∧ Aside0 (w'.heap[gb199]? = some (.cells #[u200000, .int .i64 a0_1] 24 (0, 0))) ∧ Aside0 (Below w.heap.size w w'))
 case atStart => exact ⟨(0), (([] : List (S27))), (.slice none 0 0), (by first | rfl | (simp; done) | (simp [*]; done)), H', ⟨Nat.le_refl _⟩, ⟨by first | exact Kd.S_nil _ _ _ _ _ | exact Kd.N_nil _ _ _ _ _ | exact Kd.V_nil _ _ _ _ _ | exact Kd.Q_nil _ _ _ _ _ | exact Kd.R_nil _ _ _ _ _⟩, ⟨by (with_reducible repeat (first | refine blk_drewN ?_ _ | refine blk_drew ?_ | refine blk_alloc ?_ _)); refine blk_far ?_ NB197_199.out _; (with_reducible repeat (first | refine blk_drewN ?_ _ | refine blk_drew ?_ | refine blk_alloc ?_ _)); refine blk_far ?_ NB197_199.out _; (with_reducible repeat (first | refine blk_drewN ?_ _ | refine blk_drew ?_ | refine blk_alloc ?_ _)); exact BK197.out⟩, ⟨by (with_reducible repeat (first | refine blk_drewN ?_ _ | refine blk_drew ?_ | refine blk_alloc ?_ _)); refine blk_far ?_ NB198_199.out _; (with_reducible repeat (first | refine blk_drewN ?_ _ | refine blk_drew ?_ | refine blk_alloc ?_ _)); refine blk_far ?_ NB198_199.out _; (with_reducible repeat (first | refine blk_drewN ?_ _ | refine blk_drew ?_ | refine blk_alloc ?_ _)); exact BK198.out⟩, ⟨by (with_reducible repeat (first | refine blk_drewN ?_ _ | refine blk_drew ?_ | refine blk_alloc ?_ _)); refine blk_put (cs := #[.slice none 0 0, .int .i64 0]) ?_ 1 _ rfl; (with_reducible repeat (first | refine blk_drewN ?_ _ | refine blk_drew ?_ | refine blk_alloc ?_ _)); refine blk_put (cs := #[.slice none 0 0, .int .i64 0]) ?_ 0 _ rfl; (with_reducible repeat (first | refine blk_drewN ?_ _ | refine blk_drew ?_ | refine blk_alloc ?_ _)); exact BK199.out⟩, ⟨bx_⟩⟩
 case round =>
  clear H'
  try clear c1
  try clear p2
  try clear c4
  try clear c7
  try clear c8
  try clear hcz5_0
  try clear hcz5_1
  try clear hcz9_0
  try clear hcz9_1
  try clear hfz5_0
  try clear hfz5_1
  try clear hfz9_0
  try clear hfz9_1
  obtain ⟨x4_1, x200000_1, u200000, rfl, HA, HK1, HO_200000, BK197, BK198, BK199, HB⟩ := hrel
  cases gk with
  | zero => exact absurd HA.out (by simp [trefoillaw18_Own.l0])
  | succ k1 =>
   have H := HA.out
   clear HA
   simp only [trefoillaw18_Own.l0] at H
   by_cases c10 : x4_1 < (l0_0.length : Int)
   ·
    rw [if_pos c10] at H
    have c10b0 : decide (x4_1 < (l0_0.length : Int)) = true := decide_eq_true c10
    clear c10
    by_cases c11 : 0 ≤ x4_1
    ·
     rw [if_pos c11] at H
     have c11b0 : decide (0 ≤ x4_1) = true := decide_eq_true c11
     clear c11
     obtain ⟨y202, hy202⟩ : ∃ y_ : List Int, y_ = (([] : List Int)) := ⟨_, rfl⟩
     replace H : (if y202.length + ((rd_T27 l0_0 x4_1).f2).length < 17592186044416 then (if x200000_1.length < 3518437208883 then (trefoillaw18_Own.l0 k1 (wrap64 (x4_1 + 1)) l0_0 a0_1 (x200000_1 ++ [(⟨(rd_T27 l0_0 x4_1).f0, (rd_T27 l0_0 x4_1).f1, (y202 ++ ((rd_T27 l0_0 x4_1).f2))⟩ : S27)]) a0_1) else (none)) else (none)) = some (r1, r2) := by first | (rw [hy202]; with_reducible exact H) | (have H2_ := (Option.bind_some _ _).symm.trans H; rw [hy202]; with_reducible exact H2_) | (have H2_ := (Option.bind_some _ _).symm.trans H; with_reducible exact H2_) | with_reducible exact H | (rw [hy202]; exact H) | exact H
     have Ny202 := Aside0.mk hy202
     clear hy202
     by_cases c12 : y202.length + ((rd_T27 l0_0 x4_1).f2).length < 17592186044416
     ·
      rw [if_pos c12] at H
      have LMc12 := Aside0.mk c12
      clear c12
      obtain ⟨y205, hy205⟩ : ∃ y_ : List Int, y_ = (y202 ++ ((rd_T27 l0_0 x4_1).f2)) := ⟨_, rfl⟩
      replace H : (if x200000_1.length < 3518437208883 then (trefoillaw18_Own.l0 k1 (wrap64 (x4_1 + 1)) l0_0 a0_1 (x200000_1 ++ [(⟨(rd_T27 l0_0 x4_1).f0, (rd_T27 l0_0 x4_1).f1, y205⟩ : S27)]) a0_1) else (none)) = some (r1, r2) := by first | (rw [hy205]; with_reducible exact H) | (have H2_ := (Option.bind_some _ _).symm.trans H; rw [hy205]; with_reducible exact H2_) | (have H2_ := (Option.bind_some _ _).symm.trans H; with_reducible exact H2_) | with_reducible exact H | (rw [hy205]; exact H) | exact H
      have Ny205 := Aside0.mk hy205
      clear hy205
      by_cases c13 : x200000_1.length < 3518437208883
      ·
       rw [if_pos c13] at H
       have LMc13 := Aside0.mk c13
       clear c13
       obtain ⟨y208, hy208⟩ : ∃ y_ : List (S27), y_ = (x200000_1 ++ [(⟨(rd_T27 l0_0 x4_1).f0, (rd_T27 l0_0 x4_1).f1, y205⟩ : S27)]) := ⟨_, rfl⟩
       replace H : (trefoillaw18_Own.l0 k1 (wrap64 (x4_1 + 1)) l0_0 a0_1 y208 a0_1) = some (r1, r2) := by first | (rw [hy208]; with_reducible exact H) | (have H2_ := (Option.bind_some _ _).symm.trans H; rw [hy208]; with_reducible exact H2_) | (have H2_ := (Option.bind_some _ _).symm.trans H; with_reducible exact H2_) | with_reducible exact H | (rw [hy208]; exact H) | exact H
       have Ny208 := Aside0.mk hy208
       clear hy208
       have H' := Aside0.mk H
       clear H
       have hnb14 := NB197_198.out
       have hnc14 := NB198_197.out
       have hnb15 := NB197_199.out
       have hnc15 := NB199_197.out
       have hcz16_0 : wr.cell? ⟨gb197, 0, none⟩ = some (.slice A0_0 l0_0.length c0_0) := bcx_ BK197.out 0
       have hcz16_1 : wr.cell? ⟨gb197, 1, none⟩ = some (.int .i64 a0_1) := bcx_ BK197.out 1
       have hfz16_0 := blk_frozen BK197.out 0
       have hfz16_1 := blk_frozen BK197.out 1
       have p200 : 0 ≤ (x4_1 : Int) := of_decide_eq_true (by first | (with_reducible assumption) | assumption)
       have q200 : x4_1 < (l0_0.length : Int) := of_decide_eq_true (by first | (with_reducible assumption) | assumption)
       obtain ⟨ad200, A200_2, c200_2, e200, hx200_0, hx200_1, hx200_2, hl200_2, hi200_2⟩ := at_T27 HR0_0.out x4_1 p200 q200
       cases e200
       replace hx200_0 := (HB.out.cell (World.block_lt_of_cell? w _ hx200_0)).trans hx200_0
       replace hx200_1 := (HB.out.cell (World.block_lt_of_cell? w _ hx200_1)).trans hx200_1
       replace hx200_2 := (HB.out.cell (World.block_lt_of_cell? w _ hx200_2)).trans hx200_2
       have HR200_2 := Aside0.mk hi200_2
       have HC200_2 := Aside0.mk hl200_2
       clear hi200_2 hl200_2
       replace p200 := eq_true p200
       replace q200 := eq_true q200
       go_wp2_with (first | ((with_reducible refine gate_dst (N := 5) rfl ?_); refine box_event ?hg (N := 5) ?hd (cs := #[.int .i64 0, .int .i64 0, .slice none 0 0]) (t := 27) ?hr ?_; (case hd => rfl); (case hg => rfl); (case hr => first | (go_simp; done) | (go_simp; rfl)); intro gb201 hg w17 hbox hb; have n0_ := Aside0.mk (Kd.S_below (Kd.S_elderB (kS_ HO_200000.out) gb201 (Nat.le_of_eq hg.symm)) hb); have n1_ := Aside0.mk (blk_below (bk_ BK197.out) hb); have n2_ := Aside0.mk (blk_below (bk_ BK198.out) hb); have n3_ := Aside0.mk (blk_below (bk_ BK199.out) hb); have n4_ := Aside0.mk (below_step bx_ hb); have n5_ := Aside0.mk (hbox); have n6_ := Aside0.mk ((by rw [hg]; exact (below_size bx_) : w.heap.size ≤ gb201)); have n7_ := Aside0.mk ((by rw [hg]; exact (below_size bx_) : w.heap.size ≤ gb201)); have n8_ := Aside0.mk ((by rw [hg]; exact Nat.ne_of_lt (blk_lt (bk_ BK197.out)) : gb197 ≠ gb201)); have n9_ := Aside0.mk ((by rw [hg]; exact Nat.ne_of_gt (blk_lt (bk_ BK197.out)) : gb201 ≠ gb197)); have n10_ := Aside0.mk ((by rw [hg]; exact Nat.ne_of_lt (blk_lt (bk_ BK198.out)) : gb198 ≠ gb201)); have n11_ := Aside0.mk ((by rw [hg]; exact Nat.ne_of_gt (blk_lt (bk_ BK198.out)) : gb201 ≠ gb198)); have n12_ := Aside0.mk ((by rw [hg]; exact Nat.ne_of_lt (blk_lt (bk_ BK199.out)) : gb199 ≠ gb201)); have n13_ := Aside0.mk ((by rw [hg]; exact Nat.ne_of_gt (blk_lt (bk_ BK199.out)) : gb201 ≠ gb199)); clear HO_200000; clear BK197; clear BK198; clear BK199; clear HB; have HO_200000 := n0_; have BK197 := n1_; have BK198 := n2_; have BK199 := n3_; have HB := n4_; have BK201 := n5_; have GW201 := n6_; have GE201 := n7_; have NB197_201 := n8_; have NB201_197 := n9_; have NB198_201 := n10_; have NB201_198 := n11_; have NB199_201 := n12_; have NB201_199 := n13_; clear n0_ n1_ n2_ n3_ n4_ n5_ n6_ n7_ n8_ n9_ n10_ n11_ n12_ n13_; clear hb hbox hg; have hnb18 := NB201_197.out; have hnc18 := NB197_201.out; have hnb19 := NB201_198.out; have hnc19 := NB198_201.out; have hnb20 := NB201_199.out; have hnc20 := NB199_201.out; have hcz21_0 : w17.cell? ⟨gb201, 0, none⟩ = some (.int .i64 0) := bcx_ BK201.out 0; have hcz21_1 : w17.cell? ⟨gb201, 1, none⟩ = some (.int .i64 0) := bcx_ BK201.out 1; have hcz21_2 : w17.cell? ⟨gb201, 2, none⟩ = some (.slice none 0 0) := bcx_ BK201.out 2; have hfz21_0 := blk_frozen BK201.out 0; have hfz21_1 := blk_frozen BK201.out 1; have hfz21_2 := blk_frozen BK201.out 2) | ((with_reducible refine gate_dst (N := 21) rfl ?_); refine Kd.R_lit (Kd.int .i64) _ 3 ?hg (N := 21) ?hd (xs := ([] : List Int)) (inner := []) (ok := fun _ => True) (okp := fun _ => True) ?hr ?hp (fun _ hk => hk) trivial (Below.refl _ _) (Nat.le_refl _) (by simp) ?_; (case hd => rfl); (case hg => rfl); (case hr => first | (go_simp; done) | (go_simp; rfl)); (case hp => exact (Reps.none _ _)); intro v203 w22 ho23 hb hg_ hnew_; clear hg_ hnew_; (first | rw [← Ny202.out] at ho23 | (simp only [Int.reduceToNat] at ho23; rw [← Ny202.out] at ho23)); have n0_ := Aside0.mk (Kd.S_elder' (by (with_reducible repeat (first | apply Kd.S_alloc | apply Kd.S_drewN | apply Kd.S_drew)); exact (Kd.S_mono (Kd.S_far (p := ⟨gb201, 2, none⟩) (Kd.S_far (p := ⟨gb201, 1, none⟩) (Kd.S_far (p := ⟨gb201, 0, none⟩) (Kd.S_mono HO_200000.out (fun k_ hk => (⟨hk, hk.2⟩ : _ ∧ k_ ≠ gb201))) (fun _ hk => hk.2) (.int .i64 ((rd_T27 l0_0 x4_1).f0))) (fun _ hk => hk.2) (.int .i64 ((rd_T27 l0_0 x4_1).f1))) (fun _ hk => hk.2) (.slice A200_2 ((rd_T27 l0_0 x4_1).f2).length c200_2)) (fun _ h_ => h_.1))) (Kd.R_base ho23) hb); have n1_ := Aside0.mk (Kd.R_lower ho23 (below_size bx_)); have n2_ := Aside0.mk (blk_below (g := gb197) (o := .cells #[.slice (some ad200) l0_0.length c0_0, .int .i64 a0_1] 24 (0, 0)) (by (with_reducible repeat (first | refine blk_drewN ?_ _ | refine blk_drew ?_ | refine blk_alloc ?_ _)); refine blk_far ?_ NB197_201.out _; (with_reducible repeat (first | refine blk_drewN ?_ _ | refine blk_drew ?_ | refine blk_alloc ?_ _)); refine blk_far ?_ NB197_201.out _; (with_reducible repeat (first | refine blk_drewN ?_ _ | refine blk_drew ?_ | refine blk_alloc ?_ _)); refine blk_far ?_ NB197_201.out _; (with_reducible repeat (first | refine blk_drewN ?_ _ | refine blk_drew ?_ | refine blk_alloc ?_ _)); exact BK197.out) hb); have n3_ := Aside0.mk (blk_below (g := gb198) (o := .cells #[.slice none 0 0, .int .i64 0] 24 (0, 0)) (by (with_reducible repeat (first | refine blk_drewN ?_ _ | refine blk_drew ?_ | refine blk_alloc ?_ _)); refine blk_far ?_ NB198_201.out _; (with_reducible repeat (first | refine blk_drewN ?_ _ | refine blk_drew ?_ | refine blk_alloc ?_ _)); refine blk_far ?_ NB198_201.out _; (with_reducible repeat (first | refine blk_drewN ?_ _ | refine blk_drew ?_ | refine blk_alloc ?_ _)); refine blk_far ?_ NB198_201.out _; (with_reducible repeat (first | refine blk_drewN ?_ _ | refine blk_drew ?_ | refine blk_alloc ?_ _)); exact BK198.out) hb); have n4_ := Aside0.mk (blk_below (g := gb199) (o := .cells #[u200000, .int .i64 a0_1] 24 (0, 0)) (by (with_reducible repeat (first | refine blk_drewN ?_ _ | refine blk_drew ?_ | refine blk_alloc ?_ _)); refine blk_far ?_ NB199_201.out _; (with_reducible repeat (first | refine blk_drewN ?_ _ | refine blk_drew ?_ | refine blk_alloc ?_ _)); refine blk_far ?_ NB199_201.out _; (with_reducible repeat (first | refine blk_drewN ?_ _ | refine blk_drew ?_ | refine blk_alloc ?_ _)); refine blk_far ?_ NB199_201.out _; (with_reducible repeat (first | refine blk_drewN ?_ _ | refine blk_drew ?_ | refine blk_alloc ?_ _)); exact BK199.out) hb); have n5_ := Aside0.mk (blk_below (g := gb201) (o := .cells #[.int .i64 ((rd_T27 l0_0 x4_1).f0), .int .i64 ((rd_T27 l0_0 x4_1).f1), .slice A200_2 ((rd_T27 l0_0 x4_1).f2).length c200_2] 27 (0, 0)) (by (with_reducible repeat (first | refine blk_drewN ?_ _ | refine blk_drew ?_ | refine blk_alloc ?_ _)); refine blk_put (cs := #[.int .i64 ((rd_T27 l0_0 x4_1).f0), .int .i64 ((rd_T27 l0_0 x4_1).f1), .slice none 0 0]) ?_ 2 _ rfl; (with_reducible repeat (first | refine blk_drewN ?_ _ | refine blk_drew ?_ | refine blk_alloc ?_ _)); refine blk_put (cs := #[.int .i64 ((rd_T27 l0_0 x4_1).f0), .int .i64 0, .slice none 0 0]) ?_ 1 _ rfl; (with_reducible repeat (first | refine blk_drewN ?_ _ | refine blk_drew ?_ | refine blk_alloc ?_ _)); refine blk_put (cs := #[.int .i64 0, .int .i64 0, .slice none 0 0]) ?_ 0 _ rfl; (with_reducible repeat (first | refine blk_drewN ?_ _ | refine blk_drew ?_ | refine blk_alloc ?_ _)); exact BK201.out) hb); have n6_ := Aside0.mk (below_step bx_ hb); clear HO_200000; clear BK197; clear BK198; clear BK199; clear BK201; clear HB; have HO_200000 := n0_; have HO204 := n1_; have BK197 := n2_; have BK198 := n3_; have BK199 := n4_; have BK201 := n5_; have HB := n6_; clear n0_ n1_ n2_ n3_ n4_ n5_ n6_; clear hb ho23; have hcz24_0 : w22.cell? ⟨gb201, 0, none⟩ = some (.int .i64 ((rd_T27 l0_0 x4_1).f0)) := bcx_ BK201.out 0; have hcz24_1 : w22.cell? ⟨gb201, 1, none⟩ = some (.int .i64 ((rd_T27 l0_0 x4_1).f1)) := bcx_ BK201.out 1; have hcz24_2 : w22.cell? ⟨gb201, 2, none⟩ = some (.slice A200_2 ((rd_T27 l0_0 x4_1).f2).length c200_2) := bcx_ BK201.out 2; have hfz24_0 := blk_frozen BK201.out 0; have hfz24_1 := blk_frozen BK201.out 1; have hfz24_2 := blk_frozen BK201.out 2) | ((with_reducible refine gate_builtin (b := .append) (xs := #[.tmp 21, .tmp 23]) rfl ?_); at_builtin; refine Kd.R_append_rows (Kd.int .i64) (w0 := w) w.heap.size rfl (.tmp 21) (.tmp 23) 25 3 (.int .i64 0) 8 rfl Try.underlying25 info3 rfl (by decide) (by omega) v203 y202 ((rd_T27 l0_0 x4_1).f2) _ _ _ (fun _ => True) (fun _ => False) rfl rfl ?aO ?aR (fun _ _ h => h) (fun _ h => h.elim) ?aF ?aB ?aS ?aL ?_; (case aR => repeat (first | exact (Kd.C_below HR200_2.out HB.out) | (with_reducible refine Kd.C_alloc ?_ _) | (with_reducible refine Kd.C_drewN ?_ _) | (with_reducible refine Kd.C_drew ?_))); (case aB => exact bx_); (case aF => exact (fun _ _ => trivial)); (case aO => exact (kR_ HO204.out)); (case aS => exact (below_size bx_)); (case aL => have := LMc12.out; omega); intro v206 w25 ho hb hg hat; rw [← Ny205.out] at ho; have n0_ := Aside0.mk (Kd.S_after (ok := (fun k_ => k_ ≠ gb201)) (by (with_reducible repeat (first | apply Kd.S_alloc | apply Kd.S_drewN | apply Kd.S_drew)); exact Kd.S_mono HO_200000.out (fun _ hk => ⟨hk.1.2, hk.2⟩)) hg hat); have n1_ := Aside0.mk (blk_grown (g := gb197) (o := .cells #[.slice (some ad200) l0_0.length c0_0, .int .i64 a0_1] 24 (0, 0)) (bk_ BK197.out) hg (Kd.R_ne HO204.out BK197.out (by decide))); have n2_ := Aside0.mk (blk_grown (g := gb198) (o := .cells #[.slice none 0 0, .int .i64 0] 24 (0, 0)) (bk_ BK198.out) hg (Kd.R_ne HO204.out BK198.out (by decide))); have n3_ := Aside0.mk (blk_grown (g := gb199) (o := .cells #[u200000, .int .i64 a0_1] 24 (0, 0)) (bk_ BK199.out) hg (Kd.R_ne HO204.out BK199.out (by decide))); have n4_ := Aside0.mk (blk_grown (g := gb201) (o := .cells #[.int .i64 ((rd_T27 l0_0 x4_1).f0), .int .i64 ((rd_T27 l0_0 x4_1).f1), .slice A200_2 ((rd_T27 l0_0 x4_1).f2).length c200_2] 27 (0, 0)) (bk_ BK201.out) hg (Kd.R_ne HO204.out BK201.out (by decide))); have n5_ := Aside0.mk (hb); have n6_ := Aside0.mk (ho); clear HO_200000; clear BK197; clear BK198; clear BK199; clear BK201; clear HB; clear HO204; have HO_200000 := n0_; have BK197 := n1_; have BK198 := n2_; have BK199 := n3_; have BK201 := n4_; have HB := n5_; have HO207 := n6_; clear n0_ n1_ n2_ n3_ n4_ n5_ n6_; clear ho hb hg hat; obtain ⟨Ao26, co26, eo26⟩ := Kd.R_slice HO207.out; subst eo26; have hcz27_0 : w25.cell? ⟨gb201, 0, none⟩ = some (.int .i64 ((rd_T27 l0_0 x4_1).f0)) := bcx_ BK201.out 0; have hcz27_1 : w25.cell? ⟨gb201, 1, none⟩ = some (.int .i64 ((rd_T27 l0_0 x4_1).f1)) := bcx_ BK201.out 1; have hcz27_2 : w25.cell? ⟨gb201, 2, none⟩ = some (.slice A200_2 ((rd_T27 l0_0 x4_1).f2).length c200_2) := bcx_ BK201.out 2; have hfz27_0 := blk_frozen BK201.out 0; have hfz27_1 := blk_frozen BK201.out 1; have hfz27_2 := blk_frozen BK201.out 2) | ((with_reducible refine gate_store (t := 25) (p := 25) rfl ?_); refine store_event (t := 25) (p := 25) (v := ?vo_w28) (w1 := (w25.setCell ⟨gb201, 2, none⟩ (.slice Ao26 y205.length co26))) ?hg ?ho ?hn ?hr ?_; (case ho => rfl); (case hg => rfl); (case hn => rfl); (case hr => first | (go_simp; done) | (go_simp; rfl)); intro w28 hw; have n0_ : Aside0 (Kd.S k27 27 w28 w.heap.size (fun k_ => some k_ ≠ (.slice Ao26 y205.length co26 : Value).ownBlock ∧ k_ ≠ gb201) u200000 x200000_1) := ⟨(by rw [hw]; exact (by (with_reducible repeat (first | apply Kd.S_alloc | apply Kd.S_drewN | apply Kd.S_drew)); exact Kd.S_mono (Kd.S_far (p := ⟨gb201, 2, none⟩) (Kd.S_mono HO_200000.out (fun k_ hk => (⟨hk, hk.1⟩ : _ ∧ k_ ≠ gb201))) (fun _ hk => hk.2) (.slice Ao26 y205.length co26)) (fun _ hk => ⟨hk.1.2, hk.1.1⟩)))⟩; have n1_ : Aside0 (Kd.R (Kd.int .i64) 3 w28 w.heap.size (fun _ => True) (.slice Ao26 y205.length co26) y205) := ⟨(by rw [hw]; exact (by (with_reducible repeat (first | apply Kd.R_alloc | apply Kd.R_drewN | apply Kd.R_drew)); exact Kd.R_mono (Kd.R_far (p := ⟨gb201, 2, none⟩) (Kd.R_types HO207.out BK201.out (by decide)) (fun _ hk => hk.2) (.slice Ao26 y205.length co26)) (fun _ hk => trivial)))⟩; have n2_ : Aside0 (w28.heap[gb197]? = some (.cells #[.slice (some ad200) l0_0.length c0_0, .int .i64 a0_1] 24 (0, 0))) := ⟨(by rw [hw]; exact (by (with_reducible repeat (first | refine blk_drewN ?_ _ | refine blk_drew ?_ | refine blk_alloc ?_ _)); refine blk_far ?_ NB197_201.out _; (with_reducible repeat (first | refine blk_drewN ?_ _ | refine blk_drew ?_ | refine blk_alloc ?_ _)); exact BK197.out))⟩; have n3_ : Aside0 (w28.heap[gb198]? = some (.cells #[.slice none 0 0, .int .i64 0] 24 (0, 0))) := ⟨(by rw [hw]; exact (by (with_reducible repeat (first | refine blk_drewN ?_ _ | refine blk_drew ?_ | refine blk_alloc ?_ _)); refine blk_far ?_ NB198_201.out _; (with_reducible repeat (first | refine blk_drewN ?_ _ | refine blk_drew ?_ | refine blk_alloc ?_ _)); exact BK198.out))⟩; have n4_ : Aside0 (w28.heap[gb199]? = some (.cells #[u200000, .int .i64 a0_1] 24 (0, 0))) := ⟨(by rw [hw]; exact (by (with_reducible repeat (first | refine blk_drewN ?_ _ | refine blk_drew ?_ | refine blk_alloc ?_ _)); refine blk_far ?_ NB199_201.out _; (with_reducible repeat (first | refine blk_drewN ?_ _ | refine blk_drew ?_ | refine blk_alloc ?_ _)); exact BK199.out))⟩; have n5_ : Aside0 (w28.heap[gb201]? = some (.cells #[.int .i64 ((rd_T27 l0_0 x4_1).f0), .int .i64 ((rd_T27 l0_0 x4_1).f1), .slice Ao26 y205.length co26] 27 (0, 0))) := ⟨(by rw [hw]; exact (by (with_reducible repeat (first | refine blk_drewN ?_ _ | refine blk_drew ?_ | refine blk_alloc ?_ _)); refine blk_put (cs := #[.int .i64 ((rd_T27 l0_0 x4_1).f0), .int .i64 ((rd_T27 l0_0 x4_1).f1), .slice A200_2 ((rd_T27 l0_0 x4_1).f2).length c200_2]) ?_ 2 _ rfl; (with_reducible repeat (first | refine blk_drewN ?_ _ | refine blk_drew ?_ | refine blk_alloc ?_ _)); exact BK201.out))⟩; have n6_ : Aside0 (Below w.heap.size w w28) := ⟨(by rw [hw]; exact bx_)⟩; clear hw; clear HO_200000; clear HO207; clear BK197; clear BK198; clear BK199; clear BK201; clear HB; have HO_200000 := n0_; have HO207 := n1_; have BK197 := n2_; have BK198 := n3_; have BK199 := n4_; have BK201 := n5_; have HB := n6_; clear n0_ n1_ n2_ n3_ n4_ n5_ n6_; have hnb29 := NB199_198.out; have hnc29 := NB198_199.out; have hcz30_0 : w28.cell? ⟨gb199, 0, none⟩ = some (u200000) := bcx_ BK199.out 0; have hcz30_1 : w28.cell? ⟨gb199, 1, none⟩ = some (.int .i64 a0_1) := bcx_ BK199.out 1; have hfz30_0 := blk_frozen BK199.out 0; have hfz30_1 := blk_frozen BK199.out 1; have hcz31_0 : w28.cell? ⟨gb201, 0, none⟩ = some (.int .i64 ((rd_T27 l0_0 x4_1).f0)) := bcx_ BK201.out 0; have hcz31_1 : w28.cell? ⟨gb201, 1, none⟩ = some (.int .i64 ((rd_T27 l0_0 x4_1).f1)) := bcx_ BK201.out 1; have hcz31_2 : w28.cell? ⟨gb201, 2, none⟩ = some (.slice Ao26 y205.length co26) := bcx_ BK201.out 2; have hfz31_0 := blk_frozen BK201.out 0; have hfz31_1 := blk_frozen BK201.out 1; have hfz31_2 := blk_frozen BK201.out 2) | ((with_reducible refine gate_builtin (b := .append) (xs := #[.tmp 27, .tmp 29]) rfl ?_); at_builtin; refine Kd.S_append k27 (w0 := w) w.heap.size rfl (.tmp 27) (.tmp 29) 22 27 (.agg #[(.int .i64 0), (.int .i64 0), (.slice none 0 0)]) 40 rfl Try.underlying22 info27 rfl (by decide) (by omega) u200000 x200000_1 (⟨(rd_T27 l0_0 x4_1).f0, (rd_T27 l0_0 x4_1).f1, y205⟩ : S27) [.int .i64 ((rd_T27 l0_0 x4_1).f0), .int .i64 ((rd_T27 l0_0 x4_1).f1), .slice Ao26 y205.length co26] (fun k_ => k_ ≠ gb201) (fun k_ => some k_ = (.slice Ao26 y205.length co26 : Value).ownBlock) rfl rfl ?aP (fun k_ hk_ => ((Kd.R_mono (ok' := fun k_ => ((fun k_ => k_ ≠ gb201)) k_ ∧ some k_ ≠ (u200000 : Value).ownBlock) (Kd.R_types (Kd.R_apart' (HO207.out) (Kd.S_typed HO_200000.out) (by decide)) BK201.out (by decide)) (fun k_ hk => ⟨hk.2, hk.1.2⟩))).1 k_ hk_.symm) ?aF ?aO ?aB ?aS ?aL ?_; (case aP => exact k27_mkM _ _ _ (⟨(rd_T27 l0_0 x4_1).f0, (rd_T27 l0_0 x4_1).f1, y205⟩ : S27) (Kd.R_mono (Kd.R_tight rfl (Kd.R_mono (ok' := fun k_ => ((fun k_ => k_ ≠ gb201)) k_ ∧ some k_ ≠ (u200000 : Value).ownBlock) (Kd.R_types (Kd.R_apart' (HO207.out) (Kd.S_typed HO_200000.out) (by decide)) BK201.out (by decide)) (fun k_ hk => ⟨hk.2, hk.1.2⟩))) (fun _ h_ => h_))); (case aB => exact bx_); (case aF => exact (fun k_ hk => Kd.freshB (g := gb201) (o := .cells #[.int .i64 ((rd_T27 l0_0 x4_1).f0), .int .i64 ((rd_T27 l0_0 x4_1).f1), .slice Ao26 y205.length co26] 27 (0, 0)) (bk_ BK201.out) k_ hk)); (case aO => exact (by (with_reducible repeat (first | apply Kd.S_alloc | apply Kd.S_drewN | apply Kd.S_drew)); exact Kd.S_mono HO_200000.out (fun k_ hk => ⟨hk.2, fun e_ => hk.1 e_⟩))); (case aS => exact (below_size bx_)); (case aL => have := LMc13.out; omega); intro v209 w32 ho hb hg hat; rw [← Ny208.out] at ho; have n0_ := Aside0.mk (blk_grown (g := gb197) (o := .cells #[.slice (some ad200) l0_0.length c0_0, .int .i64 a0_1] 24 (0, 0)) (bk_ BK197.out) hg (Kd.S_ne HO_200000.out BK197.out (by decide))); have n1_ := Aside0.mk (blk_grown (g := gb198) (o := .cells #[.slice none 0 0, .int .i64 0] 24 (0, 0)) (bk_ BK198.out) hg (Kd.S_ne HO_200000.out BK198.out (by decide))); have n2_ := Aside0.mk (blk_grown (g := gb199) (o := .cells #[u200000, .int .i64 a0_1] 24 (0, 0)) (bk_ BK199.out) hg (Kd.S_ne HO_200000.out BK199.out (by decide))); have n3_ := Aside0.mk (blk_grown (g := gb201) (o := .cells #[.int .i64 ((rd_T27 l0_0 x4_1).f0), .int .i64 ((rd_T27 l0_0 x4_1).f1), .slice Ao26 y205.length co26] 27 (0, 0)) (bk_ BK201.out) hg (Kd.S_away HO_200000.out (fun _ hk => hk.2))); have n4_ := Aside0.mk (hb); have n5_ := Aside0.mk (ho); clear BK197; clear BK198; clear BK199; clear BK201; clear HB; clear HO_200000; clear HO207; have BK197 := n0_; have BK198 := n1_; have BK199 := n2_; have BK201 := n3_; have HB := n4_; have HO210 := n5_; clear n0_ n1_ n2_ n3_ n4_ n5_; clear ho hb hg hat; obtain ⟨Ao33, co33, eo33⟩ := Kd.S_slice HO210.out; subst eo33; have hcz34_0 : w32.cell? ⟨gb199, 0, none⟩ = some (u200000) := bcx_ BK199.out 0; have hcz34_1 : w32.cell? ⟨gb199, 1, none⟩ = some (.int .i64 a0_1) := bcx_ BK199.out 1; have hfz34_0 := blk_frozen BK199.out 0; have hfz34_1 := blk_frozen BK199.out 1))
       go_roundg k1
       case measure => have := HK1.out; omega
       case rel => exact ⟨(wrap64 (x4_1 + 1)), (y208), (.slice Ao33 y208.length co33), (by first | rfl | (simp; done) | (simp [*]; done)), H', ⟨by have := HK1.out; omega⟩, ⟨by (with_reducible repeat (first | apply Kd.S_alloc | apply Kd.S_drewN | apply Kd.S_drew)); exact Kd.S_mono (Kd.S_far (p := ⟨gb199, 0, none⟩) (Kd.S_types HO210.out BK199.out (by decide)) (fun _ hk => hk.2) (.slice Ao33 y208.length co33)) (fun _ hk => trivial)⟩, ⟨by (with_reducible repeat (first | refine blk_drewN ?_ _ | refine blk_drew ?_ | refine blk_alloc ?_ _)); refine blk_far ?_ NB197_199.out _; (with_reducible repeat (first | refine blk_drewN ?_ _ | refine blk_drew ?_ | refine blk_alloc ?_ _)); exact BK197.out⟩, ⟨by (with_reducible repeat (first | refine blk_drewN ?_ _ | refine blk_drew ?_ | refine blk_alloc ?_ _)); refine blk_far ?_ NB198_199.out _; (with_reducible repeat (first | refine blk_drewN ?_ _ | refine blk_drew ?_ | refine blk_alloc ?_ _)); exact BK198.out⟩, ⟨by (with_reducible repeat (first | refine blk_drewN ?_ _ | refine blk_drew ?_ | refine blk_alloc ?_ _)); refine blk_put (cs := #[u200000, .int .i64 a0_1]) ?_ 0 _ rfl; (with_reducible repeat (first | refine blk_drewN ?_ _ | refine blk_drew ?_ | refine blk_alloc ?_ _)); exact BK199.out⟩, ⟨bx_⟩⟩
      ·
       rw [if_neg c13] at H
       exact absurd H (by simp)
     ·
      rw [if_neg c12] at H
      exact absurd H (by simp)
    ·
     rw [if_neg c11] at H
     exact absurd H (by simp)
   ·
    rw [if_neg c10] at H
    have c10b0 : decide (x4_1 < (l0_0.length : Int)) = false := decide_eq_false c10
    clear c10
    simp only [Option.some.injEq, Prod.mk.injEq] at H
    obtain ⟨rfl, rfl⟩ := H
    have hnb35 := NB197_198.out
    have hnc35 := NB198_197.out
    have hnb36 := NB197_199.out
    have hnc36 := NB199_197.out
    have hcz37_0 : wr.cell? ⟨gb197, 0, none⟩ = some (.slice A0_0 l0_0.length c0_0) := bcx_ BK197.out 0
    have hcz37_1 : wr.cell? ⟨gb197, 1, none⟩ = some (.int .i64 a0_1) := bcx_ BK197.out 1
    have hfz37_0 := blk_frozen BK197.out 0
    have hfz37_1 := blk_frozen BK197.out 1
    have hnb38 := NB199_198.out
    have hnc38 := NB198_199.out
    have hcz39_0 : wr.cell? ⟨gb199, 0, none⟩ = some (u200000) := bcx_ BK199.out 0
    have hcz39_1 : wr.cell? ⟨gb199, 1, none⟩ = some (.int .i64 a0_1) := bcx_ BK199.out 1
    have hfz39_0 := blk_frozen BK199.out 0
    have hfz39_1 := blk_frozen BK199.out 1
    obtain ⟨Ao40, co40, eo40⟩ := Kd.S_slice HO_200000.out
    subst eo40
    have hcz41_0 : wr.cell? ⟨gb198, 0, none⟩ = some (.slice none 0 0) := bcx_ BK198.out 0
    have hcz41_1 : wr.cell? ⟨gb198, 1, none⟩ = some (.int .i64 0) := bcx_ BK198.out 1
    have hfz41_0 := blk_frozen BK198.out 0
    have hfz41_1 := blk_frozen BK198.out 1
    go_wp2
    refine bodyPost_ret (results_cell_row rfl _ _ gb198 24 #[.slice Ao40 x200000_1.length co40, .int .i64 a0_1] (0, 0) _ rfl (by (with_reducible repeat (first | refine blk_drewN ?_ _ | refine blk_drew ?_ | refine blk_alloc ?_ _)); refine blk_put (cs := #[.slice Ao40 x200000_1.length co40, .int .i64 0]) ?_ 1 _ rfl; (with_reducible repeat (first | refine blk_drewN ?_ _ | refine blk_drew ?_ | refine blk_alloc ?_ _)); refine blk_put (cs := #[.slice none 0 0, .int .i64 0]) ?_ 0 _ rfl; (with_reducible repeat (first | refine blk_drewN ?_ _ | refine blk_drew ?_ | refine blk_alloc ?_ _)); exact BK198.out) Try.underlying24 rfl (by kernel_rfl)) rfl ?_
    exact ⟨_, by first | rfl | (simp [errW_none, errW_some] <;> rfl) | (simp [*, errW_none, errW_some] <;> rfl), by (with_reducible repeat (first | apply Kd.S_alloc | apply Kd.S_drewN | apply Kd.S_drew)); exact Kd.S_mono (Kd.S_far (p := ⟨gb198, 1, none⟩) (Kd.S_far (p := ⟨gb198, 0, none⟩) (Kd.S_types HO_200000.out BK198.out (by decide)) (fun _ hk => hk.2) (.slice Ao40 x200000_1.length co40)) (fun _ hk => hk.2) (.int .i64 a0_1)) (fun _ hk => trivial), bx_⟩
/-! ### trefoilref18_Has: function 24 -/
def trefoilref18_Has.l0 : Nat → Int → Int → List (S27) → Int → Option (Bool)
 | 0, _, _, _, _ => none
 | k + 1, x1, x5, x212000, x212001 => if x5 < (x212000.length : Int) then (if 0 ≤ x5 then (if ((rd_T27 x212000 x5).f0) = x1 then (some true) else (trefoilref18_Has.l0 k x1 (wrap64 (x5 + 1)) x212000 x212001)) else (none)) else (some false)
def trefoilref18_Has.f (k : Nat) (l0_0 : List (S27)) (a0_1 : Int) (a1 : Int) : Option (Bool) := trefoilref18_Has.l0 k a1 0 l0_0 a0_1
theorem trefoilref18_Has.mono_l : ∀ k, (∀ y0 y1 y2 y3, LeO (trefoilref18_Has.l0 k y0 y1 y2 y3) (trefoilref18_Has.l0 (k + 1) y0 y1 y2 y3))
 | 0 => fun _ _ _ _ r h => by simp [trefoilref18_Has.l0] at h
 | k + 1 => by
  have ih0 := trefoilref18_Has.mono_l k
  ·
   intro y0 y1 y2 y3
   unfold trefoilref18_Has.l0
   repeat' first
   | (with_reducible exact ih0 _ _ _ _)
   | (with_reducible exact LeO.refl _)
   | (with_reducible exact LeO.none _)
   | (with_reducible refine LeO.ite ?_ ?_)
   | (with_reducible refine LeO.bind ?_ (fun _ => ?_))
   | exact ih0 _ _ _ _
   | exact LeO.none _
   | refine LeO.ite ?_ ?_
   | refine LeO.bind ?_ (fun _ => ?_)
theorem trefoilref18_Has.mono : ∀ a0 a1 a2 k, LeO (trefoilref18_Has.f k a0 a1 a2) (trefoilref18_Has.f (k + 1) a0 a1 a2) := by
 intro a0 a1 a2 k
 have ih0 := trefoilref18_Has.mono_l k
 unfold trefoilref18_Has.f
 repeat' first
  | (with_reducible exact ih0 _ _ _ _)
  | (with_reducible exact LeO.refl _)
  | (with_reducible exact LeO.none _)
  | (with_reducible refine LeO.ite ?_ ?_)
  | (with_reducible refine LeO.bind ?_ (fun _ => ?_))
  | exact ih0 _ _ _ _
  | exact LeO.none _
  | refine LeO.ite ?_ ?_
  | refine LeO.bind ?_ (fun _ => ?_)
set_option maxHeartbeats 8000000 in
set_option maxRecDepth 100000 in
theorem trefoilref18_Has.calls (k : Nat) (A0_0 : Option Addr) (c0_0 : Nat) (l0_0 : List (S27)) (a0_1 : Int) (a1 : Int) (r : Bool) (w : World) (hr0_0 : Kd.C k27 w A0_0 l0_0.length l0_0) (hc0_0 : l0_0.length ≤ c0_0) (h : trefoilref18_Has.f k l0_0 a0_1 a1 = some r) :
 Calls Try.prog 24 #[.agg #[.slice A0_0 l0_0.length c0_0, .int .i64 a0_1], .int .i64 a1] w fun e w' => e = .returned (.bool r) ∧ Below w.heap.size w w' := by
 have hu24 := Try.underlying24
 have HR0_0 := Aside0.mk hr0_0
 have HC0_0 := Aside0.mk hc0_0
 clear hr0_0 hc0_0
 have HB := Aside0.mk (Below.refl w.heap.size w)
 have H : (trefoilref18_Has.l0 k a1 0 l0_0 a0_1) = some r := h
 clear h
 have H' := Aside0.mk H
 clear H
 go_enter Try.func24, Try.ntmps24
 go_wp2_with (first | ((with_reducible refine gate_dst (N := 2) rfl ?_); refine box_event ?hg (N := 2) ?hd (cs := #[.slice A0_0 l0_0.length c0_0, .int .i64 a0_1]) (t := 24) ?hr ?_; (case hd => rfl); (case hg => rfl); (case hr => first | (go_simp; done) | (go_simp; rfl)); intro gb211 hg w3 hbox hb; have n0_ := Aside0.mk (below_step bw_ hb); have n1_ := Aside0.mk (hbox); have n2_ := Aside0.mk ((by rw [hg]; exact (below_size bw_) : w.heap.size ≤ gb211)); have n3_ := Aside0.mk ((by rw [hg]; exact (below_size bw_) : w.heap.size ≤ gb211)); clear HB; have HB := n0_; have BK211 := n1_; have GW211 := n2_; have GE211 := n3_; clear n0_ n1_ n2_ n3_; clear hb hbox hg))
 go_loopg [5] k (fun kq v5 w' => ∃ (x5_1 : Int), v5 = .int .i64 x5_1 ∧ Aside0 (trefoilref18_Has.l0 kq a1 x5_1 l0_0 a0_1 = some r) ∧ Aside0 (kq ≤ k) ∧ Aside0 (w'.heap[gb211]? = some (.cells #[(.slice A0_0 l0_0.length c0_0), .int .i64 a0_1] 24 (0, 0))) ∧ Aside0 (Below w.heap.size w w'))
 case atStart => exact ⟨(0), (by first | rfl | (simp; done) | (simp [*]; done)), H', ⟨Nat.le_refl _⟩, ⟨by (with_reducible repeat (first | refine blk_drewN ?_ _ | refine blk_drew ?_ | refine blk_alloc ?_ _)); exact BK211.out⟩, ⟨bx_⟩⟩
 case round =>
  clear H'
  try clear c2
  try clear p2
  obtain ⟨x5_1, rfl, HA, HK1, BK211, HB⟩ := hrel
  cases gk with
  | zero => exact absurd HA.out (by simp [trefoilref18_Has.l0])
  | succ k1 =>
   have H := HA.out
   clear HA
   simp only [trefoilref18_Has.l0] at H
   by_cases c4 : x5_1 < (l0_0.length : Int)
   ·
    rw [if_pos c4] at H
    have c4b0 : decide (x5_1 < (l0_0.length : Int)) = true := decide_eq_true c4
    clear c4
    by_cases c5 : 0 ≤ x5_1
    ·
     rw [if_pos c5] at H
     have c5b0 : decide (0 ≤ x5_1) = true := decide_eq_true c5
     clear c5
     by_cases c6 : ((rd_T27 l0_0 x5_1).f0) = a1
     ·
      rw [if_pos c6] at H
      have c6b0 : (((rd_T27 l0_0 x5_1).f0) == a1) = true := beq_iff_eq.mpr c6
      have c6b1 : (((rd_T27 l0_0 x5_1).f0) != a1) = false := bne_eq_false_iff_eq.mpr c6
      clear c6
      obtain rfl := Option.some.inj H
      have hcz7_0 : wr.cell? ⟨gb211, 0, none⟩ = some (.slice A0_0 l0_0.length c0_0) := bcx_ BK211.out 0
      have hcz7_1 : wr.cell? ⟨gb211, 1, none⟩ = some (.int .i64 a0_1) := bcx_ BK211.out 1
      have hfz7_0 := blk_frozen BK211.out 0
      have hfz7_1 := blk_frozen BK211.out 1
      have p212 : 0 ≤ (x5_1 : Int) := of_decide_eq_true (by first | (with_reducible assumption) | assumption)
      have q212 : x5_1 < (l0_0.length : Int) := of_decide_eq_true (by first | (with_reducible assumption) | assumption)
      obtain ⟨ad212, A212_2, c212_2, e212, hx212_0, hx212_1, hx212_2, hl212_2, hi212_2⟩ := at_T27 HR0_0.out x5_1 p212 q212
      cases e212
      replace hx212_0 := (HB.out.cell (World.block_lt_of_cell? w _ hx212_0)).trans hx212_0
      replace hx212_1 := (HB.out.cell (World.block_lt_of_cell? w _ hx212_1)).trans hx212_1
      replace hx212_2 := (HB.out.cell (World.block_lt_of_cell? w _ hx212_2)).trans hx212_2
      have HR212_2 := Aside0.mk hi212_2
      have HC212_2 := Aside0.mk hl212_2
      clear hi212_2 hl212_2
      replace p212 := eq_true p212
      replace q212 := eq_true q212
      go_wp2
      go_ret
      exact ⟨by first | rfl | (simp [errW_none, errW_some] <;> rfl) | (simp [*, errW_none, errW_some] <;> rfl), bx_⟩
     ·
      rw [if_neg c6] at H
      have c6b0 : (((rd_T27 l0_0 x5_1).f0) == a1) = false := beq_eq_false_iff_ne.mpr c6
      have c6b1 : (((rd_T27 l0_0 x5_1).f0) != a1) = true := bne_iff_ne.mpr c6
      have H' := Aside0.mk H
      clear H
      have hcz8_0 : wr.cell? ⟨gb211, 0, none⟩ = some (.slice A0_0 l0_0.length c0_0) := bcx_ BK211.out 0
      have hcz8_1 : wr.cell? ⟨gb211, 1, none⟩ = some (.int .i64 a0_1) := bcx_ BK211.out 1
      have hfz8_0 := blk_frozen BK211.out 0
      have hfz8_1 := blk_frozen BK211.out 1
      have p212 : 0 ≤ (x5_1 : Int) := of_decide_eq_true (by first | (with_reducible assumption) | assumption)
      have q212 : x5_1 < (l0_0.length : Int) := of_decide_eq_true (by first | (with_reducible assumption) | assumption)
      obtain ⟨ad212, A212_2, c212_2, e212, hx212_0, hx212_1, hx212_2, hl212_2, hi212_2⟩ := at_T27 HR0_0.out x5_1 p212 q212
      cases e212
      replace hx212_0 := (HB.out.cell (World.block_lt_of_cell? w _ hx212_0)).trans hx212_0
      replace hx212_1 := (HB.out.cell (World.block_lt_of_cell? w _ hx212_1)).trans hx212_1
      replace hx212_2 := (HB.out.cell (World.block_lt_of_cell? w _ hx212_2)).trans hx212_2
      have HR212_2 := Aside0.mk hi212_2
      have HC212_2 := Aside0.mk hl212_2
      clear hi212_2 hl212_2
      replace p212 := eq_true p212
      replace q212 := eq_true q212
      go_wp2
      go_roundg k1
      case measure => have := HK1.out; omega
      case rel => exact ⟨(wrap64 (x5_1 + 1)), (by first | rfl | (simp; done) | (simp [*]; done)), H', ⟨by have := HK1.out; omega⟩, ⟨by (with_reducible repeat (first | refine blk_drewN ?_ _ | refine blk_drew ?_ | refine blk_alloc ?_ _)); exact BK211.out⟩, ⟨bx_⟩⟩
    ·
     rw [if_neg c5] at H
     exact absurd H (by simp)
   ·
    rw [if_neg c4] at H
    have c4b0 : decide (x5_1 < (l0_0.length : Int)) = false := decide_eq_false c4
    clear c4
    obtain rfl := Option.some.inj H
    have hcz9_0 : wr.cell? ⟨gb211, 0, none⟩ = some (.slice A0_0 l0_0.length c0_0) := bcx_ BK211.out 0
    have hcz9_1 : wr.cell? ⟨gb211, 1, none⟩ = some (.int .i64 a0_1) := bcx_ BK211.out 1
    have hfz9_0 := blk_frozen BK211.out 0
    have hfz9_1 := blk_frozen BK211.out 1
    go_wp2
    go_ret
    exact ⟨by first | rfl | (simp [errW_none, errW_some] <;> rfl) | (simp [*, errW_none, errW_some] <;> rfl), bx_⟩
/-! ### trefoilref18_Job: function 30 -/
def trefoilref18_Job.l0 : Nat → Int → Int → Int → List Int → Option (Bool)
 | 0, _, _, _, _ => none
 | k + 1, x3, x214000, x214001, x214002 => if x3 < (x214002.length : Int) then (if 0 ≤ x3 then (if (rd x214002 x3) < 1 then (some false) else (if (rd x214002 x3) > 1000 then (some false) else (trefoilref18_Job.l0 k (wrap64 (x3 + 1)) x214000 x214001 x214002))) else (none)) else (if x214000 ≥ 0 then (if x214000 ≤ 7 then (if x214001 ≥ 0 then (if x214001 ≤ 1099511627775 then (if (x214002.length : Int) > 0 then (some (decide ((x214002.length : Int) ≤ 64))) else (some false)) else (some false)) else (some false)) else (some false)) else (some false))
def trefoilref18_Job.f (k : Nat) (a0_0 : Int) (a0_1 : Int) (l0_2 : List Int) : Option (Bool) := trefoilref18_Job.l0 k 0 a0_0 a0_1 l0_2
theorem trefoilref18_Job.mono_l : ∀ k, (∀ y0 y1 y2 y3, LeO (trefoilref18_Job.l0 k y0 y1 y2 y3) (trefoilref18_Job.l0 (k + 1) y0 y1 y2 y3))
 | 0 => fun _ _ _ _ r h => by simp [trefoilref18_Job.l0] at h
 | k + 1 => by
  have ih0 := trefoilref18_Job.mono_l k
  ·
   intro y0 y1 y2 y3
   unfold trefoilref18_Job.l0
   repeat' first
   | (with_reducible exact ih0 _ _ _ _)
   | (with_reducible exact LeO.refl _)
   | (with_reducible exact LeO.none _)
   | (with_reducible refine LeO.ite ?_ ?_)
   | (with_reducible refine LeO.bind ?_ (fun _ => ?_))
   | exact ih0 _ _ _ _
   | exact LeO.none _
   | refine LeO.ite ?_ ?_
   | refine LeO.bind ?_ (fun _ => ?_)
theorem trefoilref18_Job.mono : ∀ a0 a1 a2 k, LeO (trefoilref18_Job.f k a0 a1 a2) (trefoilref18_Job.f (k + 1) a0 a1 a2) := by
 intro a0 a1 a2 k
 have ih0 := trefoilref18_Job.mono_l k
 unfold trefoilref18_Job.f
 repeat' first
  | (with_reducible exact ih0 _ _ _ _)
  | (with_reducible exact LeO.refl _)
  | (with_reducible exact LeO.none _)
  | (with_reducible refine LeO.ite ?_ ?_)
  | (with_reducible refine LeO.bind ?_ (fun _ => ?_))
  | exact ih0 _ _ _ _
  | exact LeO.none _
  | refine LeO.ite ?_ ?_
  | refine LeO.bind ?_ (fun _ => ?_)
set_option maxHeartbeats 8000000 in
set_option maxRecDepth 100000 in
theorem trefoilref18_Job.calls (k : Nat) (a0_0 : Int) (a0_1 : Int) (A0_2 : Option Addr) (c0_2 : Nat) (l0_2 : List Int) (r : Bool) (w : World) (hr0_2 : Kd.C (Kd.int .i64) w A0_2 l0_2.length l0_2) (hc0_2 : l0_2.length ≤ c0_2) (h : trefoilref18_Job.f k a0_0 a0_1 l0_2 = some r) :
 Calls Try.prog 30 #[.agg #[.int .i64 a0_0, .int .i64 a0_1, .slice A0_2 l0_2.length c0_2]] w fun e w' => e = .returned (.bool r) ∧ Below w.heap.size w w' := by
 have hu27 := Try.underlying27
 have HR0_2 := Aside0.mk hr0_2
 have HC0_2 := Aside0.mk hc0_2
 clear hr0_2 hc0_2
 have HB := Aside0.mk (Below.refl w.heap.size w)
 have H : (trefoilref18_Job.l0 k 0 a0_0 a0_1 l0_2) = some r := h
 clear h
 have H' := Aside0.mk H
 clear H
 go_enter Try.func30, Try.ntmps30
 go_wp2_with (first | ((with_reducible refine gate_dst (N := 1) rfl ?_); (try (refine gate_guard (by rfl) ?_; dsimp only)); refine box_event ?hg (N := 1) ?hd (cs := #[.int .i64 a0_0, .int .i64 a0_1, .slice A0_2 l0_2.length c0_2]) (t := 27) ?hr ?_; (case hd => rfl); (case hg => rfl); (case hr => first | (go_simp; done) | (go_simp; rfl)); intro gb213 hg w2 hbox hb; have n0_ := Aside0.mk (below_step bw_ hb); have n1_ := Aside0.mk (hbox); have n2_ := Aside0.mk ((by rw [hg]; exact (below_size bw_) : w.heap.size ≤ gb213)); have n3_ := Aside0.mk ((by rw [hg]; exact (below_size bw_) : w.heap.size ≤ gb213)); clear HB; have HB := n0_; have BK213 := n1_; have GW213 := n2_; have GE213 := n3_; clear n0_ n1_ n2_ n3_; clear hb hbox hg))
 go_loopg [3] k (fun kq v3 w' => ∃ (x3_1 : Int), v3 = .int .i64 x3_1 ∧ Aside0 (trefoilref18_Job.l0 kq x3_1 a0_0 a0_1 l0_2 = some r) ∧ Aside0 (kq ≤ k) ∧ Aside0 (w'.heap[gb213]? = some (.cells #[.int .i64 a0_0, .int .i64 a0_1, (.slice A0_2 l0_2.length c0_2)] 27 (0, 0))) ∧ Aside0 (Below w.heap.size w w'))
 case atStart => exact ⟨(0), (by first | rfl | (simp; done) | (simp [*]; done)), H', ⟨Nat.le_refl _⟩, ⟨by (with_reducible repeat (first | refine blk_drewN ?_ _ | refine blk_drew ?_ | refine blk_alloc ?_ _)); exact BK213.out⟩, ⟨bx_⟩⟩
 case round =>
  clear H'
  try clear p2
  obtain ⟨x3_1, rfl, HA, HK1, BK213, HB⟩ := hrel
  cases gk with
  | zero => exact absurd HA.out (by simp [trefoilref18_Job.l0])
  | succ k1 =>
   have H := HA.out
   clear HA
   simp only [trefoilref18_Job.l0] at H
   by_cases c3 : x3_1 < (l0_2.length : Int)
   ·
    rw [if_pos c3] at H
    have c3b0 : decide (x3_1 < (l0_2.length : Int)) = true := decide_eq_true c3
    clear c3
    by_cases c4 : 0 ≤ x3_1
    ·
     rw [if_pos c4] at H
     have c4b0 : decide (0 ≤ x3_1) = true := decide_eq_true c4
     clear c4
     by_cases c5 : (rd l0_2 x3_1) < 1
     ·
      rw [if_pos c5] at H
      have c5b0 : decide ((rd l0_2 x3_1) < 1) = true := decide_eq_true c5
      clear c5
      obtain rfl := Option.some.inj H
      have hcz6_0 : wr.cell? ⟨gb213, 0, none⟩ = some (.int .i64 a0_0) := bcx_ BK213.out 0
      have hcz6_1 : wr.cell? ⟨gb213, 1, none⟩ = some (.int .i64 a0_1) := bcx_ BK213.out 1
      have hcz6_2 : wr.cell? ⟨gb213, 2, none⟩ = some (.slice A0_2 l0_2.length c0_2) := bcx_ BK213.out 2
      have hfz6_0 := blk_frozen BK213.out 0
      have hfz6_1 := blk_frozen BK213.out 1
      have hfz6_2 := blk_frozen BK213.out 2
      have p214 : 0 ≤ (x3_1 : Int) := of_decide_eq_true (by first | (with_reducible assumption) | assumption)
      have q214 : x3_1 < (l0_2.length : Int) := of_decide_eq_true (by first | (with_reducible assumption) | assumption)
      obtain ⟨ad214, e214, hx214_0⟩ := Kd.at_int HR0_2.out x3_1 p214 q214
      cases e214
      replace hx214_0 := (HB.out.cell (World.block_lt_of_cell? w _ hx214_0)).trans hx214_0
      replace p214 := eq_true p214
      replace q214 := eq_true q214
      go_wp2
      go_ret
      exact ⟨by first | rfl | (simp [errW_none, errW_some] <;> rfl) | (simp [*, errW_none, errW_some] <;> rfl), bx_⟩
     ·
      rw [if_neg c5] at H
      have c5b0 : decide ((rd l0_2 x3_1) < 1) = false := decide_eq_false c5
      clear c5
      by_cases c7 : (rd l0_2 x3_1) > 1000
      ·
       rw [if_pos c7] at H
       have c7b0 : decide (1000 < (rd l0_2 x3_1)) = true := decide_eq_true c7
       clear c7
       obtain rfl := Option.some.inj H
       have hcz8_0 : wr.cell? ⟨gb213, 0, none⟩ = some (.int .i64 a0_0) := bcx_ BK213.out 0
       have hcz8_1 : wr.cell? ⟨gb213, 1, none⟩ = some (.int .i64 a0_1) := bcx_ BK213.out 1
       have hcz8_2 : wr.cell? ⟨gb213, 2, none⟩ = some (.slice A0_2 l0_2.length c0_2) := bcx_ BK213.out 2
       have hfz8_0 := blk_frozen BK213.out 0
       have hfz8_1 := blk_frozen BK213.out 1
       have hfz8_2 := blk_frozen BK213.out 2
       have p214 : 0 ≤ (x3_1 : Int) := of_decide_eq_true (by first | (with_reducible assumption) | assumption)
       have q214 : x3_1 < (l0_2.length : Int) := of_decide_eq_true (by first | (with_reducible assumption) | assumption)
       obtain ⟨ad214, e214, hx214_0⟩ := Kd.at_int HR0_2.out x3_1 p214 q214
       cases e214
       replace hx214_0 := (HB.out.cell (World.block_lt_of_cell? w _ hx214_0)).trans hx214_0
       replace p214 := eq_true p214
       replace q214 := eq_true q214
       have p215 : 0 ≤ (x3_1 : Int) := of_decide_eq_true (by first | (with_reducible assumption) | assumption)
       have q215 : x3_1 < (l0_2.length : Int) := of_decide_eq_true (by first | (with_reducible assumption) | assumption)
       obtain ⟨ad215, e215, hx215_0⟩ := Kd.at_int HR0_2.out x3_1 p215 q215
       obtain rfl : ad214 = ad215 := (by injection e215)
       replace hx215_0 := (HB.out.cell (World.block_lt_of_cell? w _ hx215_0)).trans hx215_0
       replace p215 := eq_true p215
       replace q215 := eq_true q215
       go_wp2
       go_ret
       exact ⟨by first | rfl | (simp [errW_none, errW_some] <;> rfl) | (simp [*, errW_none, errW_some] <;> rfl), bx_⟩
      ·
       rw [if_neg c7] at H
       have c7b0 : decide (1000 < (rd l0_2 x3_1)) = false := decide_eq_false c7
       clear c7
       have H' := Aside0.mk H
       clear H
       have hcz9_0 : wr.cell? ⟨gb213, 0, none⟩ = some (.int .i64 a0_0) := bcx_ BK213.out 0
       have hcz9_1 : wr.cell? ⟨gb213, 1, none⟩ = some (.int .i64 a0_1) := bcx_ BK213.out 1
       have hcz9_2 : wr.cell? ⟨gb213, 2, none⟩ = some (.slice A0_2 l0_2.length c0_2) := bcx_ BK213.out 2
       have hfz9_0 := blk_frozen BK213.out 0
       have hfz9_1 := blk_frozen BK213.out 1
       have hfz9_2 := blk_frozen BK213.out 2
       have p214 : 0 ≤ (x3_1 : Int) := of_decide_eq_true (by first | (with_reducible assumption) | assumption)
       have q214 : x3_1 < (l0_2.length : Int) := of_decide_eq_true (by first | (with_reducible assumption) | assumption)
       obtain ⟨ad214, e214, hx214_0⟩ := Kd.at_int HR0_2.out x3_1 p214 q214
       cases e214
       replace hx214_0 := (HB.out.cell (World.block_lt_of_cell? w _ hx214_0)).trans hx214_0
       replace p214 := eq_true p214
       replace q214 := eq_true q214
       have p215 : 0 ≤ (x3_1 : Int) := of_decide_eq_true (by first | (with_reducible assumption) | assumption)
       have q215 : x3_1 < (l0_2.length : Int) := of_decide_eq_true (by first | (with_reducible assumption) | assumption)
       obtain ⟨ad215, e215, hx215_0⟩ := Kd.at_int HR0_2.out x3_1 p215 q215
       obtain rfl : ad214 = ad215 := (by injection e215)
       replace hx215_0 := (HB.out.cell (World.block_lt_of_cell? w _ hx215_0)).trans hx215_0
       replace p215 := eq_true p215
       replace q215 := eq_true q215
       go_wp2
       go_roundg k1
       case measure => have := HK1.out; omega
       case rel => exact ⟨(wrap64 (x3_1 + 1)), (by first | rfl | (simp; done) | (simp [*]; done)), H', ⟨by have := HK1.out; omega⟩, ⟨by (with_reducible repeat (first | refine blk_drewN ?_ _ | refine blk_drew ?_ | refine blk_alloc ?_ _)); exact BK213.out⟩, ⟨bx_⟩⟩
    ·
     rw [if_neg c4] at H
     exact absurd H (by simp)
   ·
    rw [if_neg c3] at H
    have c3b0 : decide (x3_1 < (l0_2.length : Int)) = false := decide_eq_false c3
    clear c3
    by_cases c10 : a0_0 ≥ 0
    ·
     rw [if_pos c10] at H
     have c10b0 : decide (0 ≤ a0_0) = true := decide_eq_true c10
     clear c10
     by_cases c11 : a0_0 ≤ 7
     ·
      rw [if_pos c11] at H
      have c11b0 : decide (a0_0 ≤ 7) = true := decide_eq_true c11
      clear c11
      by_cases c12 : a0_1 ≥ 0
      ·
       rw [if_pos c12] at H
       have c12b0 : decide (0 ≤ a0_1) = true := decide_eq_true c12
       clear c12
       by_cases c13 : a0_1 ≤ 1099511627775
       ·
        rw [if_pos c13] at H
        have c13b0 : decide (a0_1 ≤ 1099511627775) = true := decide_eq_true c13
        clear c13
        by_cases c14 : (l0_2.length : Int) > 0
        ·
         rw [if_pos c14] at H
         have c14b0 : decide (0 < (l0_2.length : Int)) = true := decide_eq_true c14
         have c14b1 : decide (0 < l0_2.length) = true := decide_eq_true (by omega)
         clear c14
         obtain rfl := Option.some.inj H
         have hcz15_0 : wr.cell? ⟨gb213, 0, none⟩ = some (.int .i64 a0_0) := bcx_ BK213.out 0
         have hcz15_1 : wr.cell? ⟨gb213, 1, none⟩ = some (.int .i64 a0_1) := bcx_ BK213.out 1
         have hcz15_2 : wr.cell? ⟨gb213, 2, none⟩ = some (.slice A0_2 l0_2.length c0_2) := bcx_ BK213.out 2
         have hfz15_0 := blk_frozen BK213.out 0
         have hfz15_1 := blk_frozen BK213.out 1
         have hfz15_2 := blk_frozen BK213.out 2
         go_wp2
         go_ret
         exact ⟨by first | rfl | (simp [errW_none, errW_some] <;> rfl) | (simp [*, errW_none, errW_some] <;> rfl), bx_⟩
        ·
         rw [if_neg c14] at H
         have c14b0 : decide (0 < (l0_2.length : Int)) = false := decide_eq_false c14
         have c14b1 : decide (0 < l0_2.length) = false := decide_eq_false (by omega)
         clear c14
         obtain rfl := Option.some.inj H
         have hcz16_0 : wr.cell? ⟨gb213, 0, none⟩ = some (.int .i64 a0_0) := bcx_ BK213.out 0
         have hcz16_1 : wr.cell? ⟨gb213, 1, none⟩ = some (.int .i64 a0_1) := bcx_ BK213.out 1
         have hcz16_2 : wr.cell? ⟨gb213, 2, none⟩ = some (.slice A0_2 l0_2.length c0_2) := bcx_ BK213.out 2
         have hfz16_0 := blk_frozen BK213.out 0
         have hfz16_1 := blk_frozen BK213.out 1
         have hfz16_2 := blk_frozen BK213.out 2
         go_wp2
         go_ret
         exact ⟨by first | rfl | (simp [errW_none, errW_some] <;> rfl) | (simp [*, errW_none, errW_some] <;> rfl), bx_⟩
       ·
        rw [if_neg c13] at H
        have c13b0 : decide (a0_1 ≤ 1099511627775) = false := decide_eq_false c13
        clear c13
        obtain rfl := Option.some.inj H
        have hcz17_0 : wr.cell? ⟨gb213, 0, none⟩ = some (.int .i64 a0_0) := bcx_ BK213.out 0
        have hcz17_1 : wr.cell? ⟨gb213, 1, none⟩ = some (.int .i64 a0_1) := bcx_ BK213.out 1
        have hcz17_2 : wr.cell? ⟨gb213, 2, none⟩ = some (.slice A0_2 l0_2.length c0_2) := bcx_ BK213.out 2
        have hfz17_0 := blk_frozen BK213.out 0
        have hfz17_1 := blk_frozen BK213.out 1
        have hfz17_2 := blk_frozen BK213.out 2
        go_wp2
        go_ret
        exact ⟨by first | rfl | (simp [errW_none, errW_some] <;> rfl) | (simp [*, errW_none, errW_some] <;> rfl), bx_⟩
      ·
       rw [if_neg c12] at H
       have c12b0 : decide (0 ≤ a0_1) = false := decide_eq_false c12
       clear c12
       obtain rfl := Option.some.inj H
       have hcz18_0 : wr.cell? ⟨gb213, 0, none⟩ = some (.int .i64 a0_0) := bcx_ BK213.out 0
       have hcz18_1 : wr.cell? ⟨gb213, 1, none⟩ = some (.int .i64 a0_1) := bcx_ BK213.out 1
       have hcz18_2 : wr.cell? ⟨gb213, 2, none⟩ = some (.slice A0_2 l0_2.length c0_2) := bcx_ BK213.out 2
       have hfz18_0 := blk_frozen BK213.out 0
       have hfz18_1 := blk_frozen BK213.out 1
       have hfz18_2 := blk_frozen BK213.out 2
       go_wp2
       go_ret
       exact ⟨by first | rfl | (simp [errW_none, errW_some] <;> rfl) | (simp [*, errW_none, errW_some] <;> rfl), bx_⟩
     ·
      rw [if_neg c11] at H
      have c11b0 : decide (a0_0 ≤ 7) = false := decide_eq_false c11
      clear c11
      obtain rfl := Option.some.inj H
      have hcz19_0 : wr.cell? ⟨gb213, 0, none⟩ = some (.int .i64 a0_0) := bcx_ BK213.out 0
      have hcz19_1 : wr.cell? ⟨gb213, 1, none⟩ = some (.int .i64 a0_1) := bcx_ BK213.out 1
      have hcz19_2 : wr.cell? ⟨gb213, 2, none⟩ = some (.slice A0_2 l0_2.length c0_2) := bcx_ BK213.out 2
      have hfz19_0 := blk_frozen BK213.out 0
      have hfz19_1 := blk_frozen BK213.out 1
      have hfz19_2 := blk_frozen BK213.out 2
      go_wp2
      go_ret
      exact ⟨by first | rfl | (simp [errW_none, errW_some] <;> rfl) | (simp [*, errW_none, errW_some] <;> rfl), bx_⟩
    ·
     rw [if_neg c10] at H
     have c10b0 : decide (0 ≤ a0_0) = false := decide_eq_false c10
     clear c10
     obtain rfl := Option.some.inj H
     have hcz20_0 : wr.cell? ⟨gb213, 0, none⟩ = some (.int .i64 a0_0) := bcx_ BK213.out 0
     have hcz20_1 : wr.cell? ⟨gb213, 1, none⟩ = some (.int .i64 a0_1) := bcx_ BK213.out 1
     have hcz20_2 : wr.cell? ⟨gb213, 2, none⟩ = some (.slice A0_2 l0_2.length c0_2) := bcx_ BK213.out 2
     have hfz20_0 := blk_frozen BK213.out 0
     have hfz20_1 := blk_frozen BK213.out 1
     have hfz20_2 := blk_frozen BK213.out 2
     go_wp2
     go_ret
     exact ⟨by first | rfl | (simp [errW_none, errW_some] <;> rfl) | (simp [*, errW_none, errW_some] <;> rfl), bx_⟩
end Go.Proofs.Yteodhffgnkdcfaa.Q
