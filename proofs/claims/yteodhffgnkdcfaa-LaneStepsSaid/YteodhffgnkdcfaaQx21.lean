import Derived.Test.YteodhffgnkdcfaaShort
import Derived.Test.YteodhffgnkdcfaaQx0
import Derived.Test.YteodhffgnkdcfaaQx18
import Derived.Test.YteodhffgnkdcfaaQx19
namespace Go.Proofs.Yteodhffgnkdcfaa.Q
open Go.RowKit Go.Proofs.YteodhffgnkdcfaaW.PrintWords Go.Proofs.YteodhffgnkdcfaaW.PrintLast Go.Proofs.YteodhffgnkdcfaaW.PrintMore
attribute [local go_sem] max2_int min2_int max_two min_two max_three min_three max_four min_four
set_option linter.unusedVariables false
set_option linter.unusedSimpArgs false
/-! ### trefoilref18_without: function 32 -/
def trefoilref18_without.l0 : Nat → Int → Int → List (S27) → Int → List (S27) → Int → Option ((List (S27)) × Int)
 | 0, _, _, _, _, _, _ => none
 | k + 1, x1, x6, x238000, x238001, x240000, x240001 => if x6 < (x238000.length : Int) then (if 0 ≤ x6 then (if ((rd_T27 x238000 x6).f0) = x1 then (trefoilref18_without.l0 k x1 (wrap64 (x6 + 1)) x238000 x238001 x240000 x240001) else (if x240000.length < 3518437208883 then (trefoilref18_without.l0 k x1 (wrap64 (x6 + 1)) x238000 x238001 (x240000 ++ [(⟨(rd_T27 x238000 x6).f0, (rd_T27 x238000 x6).f1, (rd_T27 x238000 x6).f2⟩ : S27)]) x240001) else (none))) else (none)) else (if x238001 = x1 then (some (x240000, (-1))) else (some (x240000, x240001)))
def trefoilref18_without.f (k : Nat) (l0_0 : List (S27)) (a0_1 : Int) (a1 : Int) : Option ((List (S27)) × Int) := trefoilref18_without.l0 k a1 0 l0_0 a0_1 ([] : List (S27)) a0_1
theorem trefoilref18_without.mono_l : ∀ k, (∀ y0 y1 y2 y3 y4 y5, LeO (trefoilref18_without.l0 k y0 y1 y2 y3 y4 y5) (trefoilref18_without.l0 (k + 1) y0 y1 y2 y3 y4 y5))
 | 0 => fun _ _ _ _ _ _ r h => by simp [trefoilref18_without.l0] at h
 | k + 1 => by
  have ih0 := trefoilref18_without.mono_l k
  ·
   intro y0 y1 y2 y3 y4 y5
   unfold trefoilref18_without.l0
   repeat' first
   | (with_reducible exact ih0 _ _ _ _ _ _)
   | (with_reducible exact LeO.refl _)
   | (with_reducible exact LeO.none _)
   | (with_reducible refine LeO.ite ?_ ?_)
   | (with_reducible refine LeO.bind ?_ (fun _ => ?_))
   | exact ih0 _ _ _ _ _ _
   | exact LeO.none _
   | refine LeO.ite ?_ ?_
   | refine LeO.bind ?_ (fun _ => ?_)
theorem trefoilref18_without.mono : ∀ a0 a1 a2 k, LeO (trefoilref18_without.f k a0 a1 a2) (trefoilref18_without.f (k + 1) a0 a1 a2) := by
 intro a0 a1 a2 k
 have ih0 := trefoilref18_without.mono_l k
 unfold trefoilref18_without.f
 repeat' first
  | (with_reducible exact ih0 _ _ _ _ _ _)
  | (with_reducible exact LeO.refl _)
  | (with_reducible exact LeO.none _)
  | (with_reducible refine LeO.ite ?_ ?_)
  | (with_reducible refine LeO.bind ?_ (fun _ => ?_))
  | exact ih0 _ _ _ _ _ _
  | exact LeO.none _
  | refine LeO.ite ?_ ?_
  | refine LeO.bind ?_ (fun _ => ?_)
def trefoilref18_without.T6 : Bool × List (List Nat × List Nat) := (true, [([], []), ([0], [0]), ([], []), ([2], [2]), ([], []), ([3, 4], [3, 4]), ([5], [5]), ([6], [6]), ([1, 7], [1, 7]), ([0, 1, 2, 3, 4, 5, 6, 7, 8], []), ([9, 8, 8, 0, 1, 2, 3, 4, 5, 6, 7, 8], [8, 9])])
def trefoilref18_without.B6 : List Nat := [0, 1, 0, 4, 0, 28, 60, 124, 255, 511, 1023]
theorem trefoilref18_without.tab6 : rtab .any (opsOf Try.f32 6) = trefoilref18_without.T6 := by kernel_rfl
theorem trefoilref18_without.bits6 : waitsOk trefoilref18_without.T6.2 trefoilref18_without.B6 = true := by kernel_rfl
set_option maxHeartbeats 8000000 in
set_option maxRecDepth 100000 in
theorem trefoilref18_without.calls (k : Nat) (P0_0_ : Nat → Prop) (A0_0 : Option Addr) (c0_0 : Nat) (l0_0 : List (S27)) (a0_1 : Int) (a1 : Int) (r1 : List (S27)) (r2 : Int) (w : World) (hs0_0 : Kd.V k27 27 w w.heap.size (fun k_ => P0_0_ k_) (.slice A0_0 l0_0.length c0_0) l0_0) (h : trefoilref18_without.f k l0_0 a0_1 a1 = some (r1, r2)) :
 Calls Try.prog 32 #[.agg #[.slice A0_0 l0_0.length c0_0, .int .i64 a0_1], .int .i64 a1] w fun e w' => ∃ v0_ : Value, e = .returned (.agg #[v0_, .int .i64 r2]) ∧ Kd.N k27 27 w' w.heap.size (fun k_ => (P0_0_ k_ ∨ w.heap.size ≤ k_)) v0_ r1 ∧ Below w.heap.size w w' := by
 have hu24 := Try.underlying24
 have hu27 := Try.underlying27
 have HO0_0 := Aside0.mk (show Kd.V k27 27 w w.heap.size (fun k_ => (P0_0_ k_ ∨ w.heap.size ≤ k_)) (.slice A0_0 l0_0.length c0_0) l0_0 from Kd.V_mono hs0_0 (fun k_ hk => .inl hk))
 have HB := Aside0.mk (Below.refl w.heap.size w)
 have H : (trefoilref18_without.l0 k a1 0 l0_0 a0_1 ([] : List (S27)) a0_1) = some (r1, r2) := h
 clear h
 have H' := Aside0.mk H
 clear H
 go_enter Try.func32, Try.ntmps32
 go_wp2_with (first | ((with_reducible refine gate_dst (N := 2) rfl ?_); refine box_event ?hg (N := 2) ?hd (cs := #[.slice A0_0 l0_0.length c0_0, .int .i64 a0_1]) (t := 24) ?hr ?_; (case hd => rfl); (case hg => rfl); (case hr => first | (go_simp; done) | (go_simp; rfl)); intro gb237 hg w3 hbox hb; have n0_ := Aside0.mk (Kd.V_below (Kd.V_elderB (kV_ HO0_0.out) gb237 (Nat.le_of_eq hg.symm)) hb); have n1_ := Aside0.mk (below_step bw_ hb); have n2_ := Aside0.mk (hbox); have n3_ := Aside0.mk ((by rw [hg]; exact (below_size bw_) : w.heap.size ≤ gb237)); have n4_ := Aside0.mk ((by rw [hg]; exact (below_size bw_) : w.heap.size ≤ gb237)); clear HO0_0; clear HB; have HO0_0 := n0_; have HB := n1_; have BK237 := n2_; have GW237 := n3_; have GE237 := n4_; clear n0_ n1_ n2_ n3_ n4_; clear hb hbox hg) | ((with_reducible refine gate_dst (N := 4) rfl ?_); refine box_event ?hg (N := 4) ?hd (cs := #[.slice none 0 0, .int .i64 0]) (t := 24) ?hr ?_; (case hd => rfl); (case hg => rfl); (case hr => first | (go_simp; done) | (go_simp; rfl)); intro gb238 hg w4 hbox hb; have n0_ := Aside0.mk (Kd.V_below (Kd.V_elderB (kV_ HO0_0.out) gb238 (Nat.le_of_eq hg.symm)) hb); have n1_ := Aside0.mk (blk_below (bk_ BK237.out) hb); have n2_ := Aside0.mk (below_step bx_ hb); have n3_ := Aside0.mk (hbox); have n4_ := Aside0.mk ((by rw [hg]; exact (below_size bx_) : w.heap.size ≤ gb238)); have n5_ := Aside0.mk ((by rw [hg]; exact (below_size bx_) : w.heap.size ≤ gb238)); have n6_ := Aside0.mk ((by rw [hg]; exact Nat.ne_of_lt (blk_lt (bk_ BK237.out)) : gb237 ≠ gb238)); have n7_ := Aside0.mk ((by rw [hg]; exact Nat.ne_of_gt (blk_lt (bk_ BK237.out)) : gb238 ≠ gb237)); clear HO0_0; clear BK237; clear HB; have HO0_0 := n0_; have BK237 := n1_; have HB := n2_; have BK238 := n3_; have GW238 := n4_; have GE238 := n5_; have NB237_238 := n6_; have NB238_237 := n7_; clear n0_ n1_ n2_ n3_ n4_ n5_ n6_ n7_; clear hb hbox hg; have hnb5 := NB237_238.out; have hnc5 := NB238_237.out; have hcz6_0 : w4.cell? ⟨gb237, 0, none⟩ = some (.slice A0_0 l0_0.length c0_0) := bcx_ BK237.out 0; have hcz6_1 : w4.cell? ⟨gb237, 1, none⟩ = some (.int .i64 a0_1) := bcx_ BK237.out 1; have hfz6_0 := blk_frozen BK237.out 0; have hfz6_1 := blk_frozen BK237.out 1) | ((with_reducible refine gate_dst (N := 5) rfl ?_); refine box_event ?hg (N := 5) ?hd (cs := #[.slice none 0 0, .int .i64 0]) (t := 24) ?hr ?_; (case hd => rfl); (case hg => rfl); (case hr => first | (go_simp; done) | (go_simp; rfl)); intro gb239 hg w7 hbox hb; have n0_ := Aside0.mk (Kd.V_below (Kd.V_elderB (kV_ HO0_0.out) gb239 (Nat.le_of_eq hg.symm)) hb); have n1_ := Aside0.mk (blk_below (bk_ BK237.out) hb); have n2_ := Aside0.mk (blk_below (bk_ BK238.out) hb); have n3_ := Aside0.mk (below_step bx_ hb); have n4_ := Aside0.mk (hbox); have n5_ := Aside0.mk ((by rw [hg]; exact (below_size bx_) : w.heap.size ≤ gb239)); have n6_ := Aside0.mk ((by rw [hg]; exact (below_size bx_) : w.heap.size ≤ gb239)); have n7_ := Aside0.mk ((by rw [hg]; exact Nat.ne_of_lt (blk_lt (bk_ BK237.out)) : gb237 ≠ gb239)); have n8_ := Aside0.mk ((by rw [hg]; exact Nat.ne_of_gt (blk_lt (bk_ BK237.out)) : gb239 ≠ gb237)); have n9_ := Aside0.mk ((by rw [hg]; exact Nat.ne_of_lt (blk_lt (bk_ BK238.out)) : gb238 ≠ gb239)); have n10_ := Aside0.mk ((by rw [hg]; exact Nat.ne_of_gt (blk_lt (bk_ BK238.out)) : gb239 ≠ gb238)); clear HO0_0; clear BK237; clear BK238; clear HB; have HO0_0 := n0_; have BK237 := n1_; have BK238 := n2_; have HB := n3_; have BK239 := n4_; have GW239 := n5_; have GE239 := n6_; have NB237_239 := n7_; have NB239_237 := n8_; have NB238_239 := n9_; have NB239_238 := n10_; clear n0_ n1_ n2_ n3_ n4_ n5_ n6_ n7_ n8_ n9_ n10_; clear hb hbox hg; have hnb8 := NB239_237.out; have hnc8 := NB237_239.out; have hnb9 := NB239_238.out; have hnc9 := NB238_239.out; have hcz10_0 : w7.cell? ⟨gb239, 0, none⟩ = some (.slice none 0 0) := bcx_ BK239.out 0; have hcz10_1 : w7.cell? ⟨gb239, 1, none⟩ = some (.int .i64 0) := bcx_ BK239.out 1; have hfz10_0 := blk_frozen BK239.out 0; have hfz10_1 := blk_frozen BK239.out 1))
 go_loopg [6] k (fun kq v6 w' => ∃ (x6_1 : Int) (x240000_1 : List (S27)) (u240000 : Value), v6 = .int .i64 x6_1 ∧ Aside0 (trefoilref18_without.l0 kq a1 x6_1 l0_0 a0_1 x240000_1 a0_1 = some (r1, r2)) ∧ Aside0 (kq ≤ k) ∧ Aside0 (Kd.V k27 27 w' w.heap.size (fun k_ => (P0_0_ k_ ∨ w.heap.size ≤ k_) ∧ some k_ ≠ (u240000 : Value).ownBlock ∧ k_ ≠ gb237 ∧ k_ ≠ gb238 ∧ k_ ≠ gb239) (.slice A0_0 l0_0.length c0_0) l0_0) ∧ Aside0 (Kd.N k27 27 w' w.heap.size (fun k_ => (P0_0_ k_ ∨ w.heap.size ≤ k_) ∧ k_ ≠ gb237 ∧ k_ ≠ gb238 ∧ k_ ≠ gb239) u240000 x240000_1) ∧ Aside0 (w'.heap[gb237]? = some (.cells #[(.slice A0_0 l0_0.length c0_0), .int .i64 a0_1] 24 (0, 0))) ∧ Aside0 (w'.heap[gb238]? = some (.cells #[(.slice none 0 0), .int .i64 0] 24 (0, 0))) ∧ Aside0 (w'.heap[gb239]? = some (.cells #[u240000, .int .i64 a0_1] 24 (0, 0))) ∧ Aside0 (Below w.heap.size w w'))
 case atStart => exact ⟨(0), (([] : List (S27))), (.slice none 0 0), (by first | rfl | (simp; done) | (simp [*]; done)), H', ⟨Nat.le_refl _⟩, ⟨by (with_reducible repeat (first | apply Kd.V_alloc | apply Kd.V_drewN | apply Kd.V_drew)); exact Kd.V_mono (Kd.V_far (p := ⟨gb239, 1, none⟩) (Kd.V_far (p := ⟨gb239, 0, none⟩) (Kd.V_mono HO0_0.out (fun k_ hk => (⟨hk, hk.2⟩ : _ ∧ k_ ≠ gb239))) (fun _ hk => hk.2) (.slice none 0 0)) (fun _ hk => hk.2) (.int .i64 a0_1)) (fun _ hk => ⟨hk.1.1.1.1, ⟨(by simp [Value.ownBlock]), ⟨hk.1.1.1.2, ⟨hk.1.1.2, hk.1.2⟩⟩⟩⟩)⟩, ⟨by first | exact Kd.S_nil _ _ _ _ _ | exact Kd.N_nil _ _ _ _ _ | exact Kd.V_nil _ _ _ _ _ | exact Kd.Q_nil _ _ _ _ _ | exact Kd.R_nil _ _ _ _ _⟩, ⟨by (with_reducible repeat (first | refine blk_drewN ?_ _ | refine blk_drew ?_ | refine blk_alloc ?_ _)); refine blk_far ?_ NB237_239.out _; (with_reducible repeat (first | refine blk_drewN ?_ _ | refine blk_drew ?_ | refine blk_alloc ?_ _)); refine blk_far ?_ NB237_239.out _; (with_reducible repeat (first | refine blk_drewN ?_ _ | refine blk_drew ?_ | refine blk_alloc ?_ _)); exact BK237.out⟩, ⟨by (with_reducible repeat (first | refine blk_drewN ?_ _ | refine blk_drew ?_ | refine blk_alloc ?_ _)); refine blk_far ?_ NB238_239.out _; (with_reducible repeat (first | refine blk_drewN ?_ _ | refine blk_drew ?_ | refine blk_alloc ?_ _)); refine blk_far ?_ NB238_239.out _; (with_reducible repeat (first | refine blk_drewN ?_ _ | refine blk_drew ?_ | refine blk_alloc ?_ _)); exact BK238.out⟩, ⟨by (with_reducible repeat (first | refine blk_drewN ?_ _ | refine blk_drew ?_ | refine blk_alloc ?_ _)); refine blk_put (cs := #[.slice none 0 0, .int .i64 0]) ?_ 1 _ rfl; (with_reducible repeat (first | refine blk_drewN ?_ _ | refine blk_drew ?_ | refine blk_alloc ?_ _)); refine blk_put (cs := #[.slice none 0 0, .int .i64 0]) ?_ 0 _ rfl; (with_reducible repeat (first | refine blk_drewN ?_ _ | refine blk_drew ?_ | refine blk_alloc ?_ _)); exact BK239.out⟩, ⟨bx_⟩⟩
 case round =>
  clear H'
  try clear p2
  try clear c3
  try clear c5
  try clear c8
  try clear c9
  try clear hcz10_0
  try clear hcz10_1
  try clear hcz6_0
  try clear hcz6_1
  try clear hfz10_0
  try clear hfz10_1
  try clear hfz6_0
  try clear hfz6_1
  obtain ⟨x6_1, x240000_1, u240000, rfl, HA, HK1, HO_238000, HO_240000, BK237, BK238, BK239, HB⟩ := hrel
  cases gk with
  | zero => exact absurd HA.out (by simp [trefoilref18_without.l0])
  | succ k1 =>
   have H := HA.out
   clear HA
   simp only [trefoilref18_without.l0] at H
   by_cases c11 : x6_1 < (l0_0.length : Int)
   ·
    rw [if_pos c11] at H
    have c11b0 : decide (x6_1 < (l0_0.length : Int)) = true := decide_eq_true c11
    clear c11
    by_cases c12 : 0 ≤ x6_1
    ·
     rw [if_pos c12] at H
     have c12b0 : decide (0 ≤ x6_1) = true := decide_eq_true c12
     clear c12
     by_cases c13 : ((rd_T27 l0_0 x6_1).f0) = a1
     ·
      rw [if_pos c13] at H
      have c13b0 : (((rd_T27 l0_0 x6_1).f0) == a1) = true := beq_iff_eq.mpr c13
      have c13b1 : (((rd_T27 l0_0 x6_1).f0) != a1) = false := bne_eq_false_iff_eq.mpr c13
      clear c13
      have H' := Aside0.mk H
      clear H
      have hnb14 := NB237_238.out
      have hnc14 := NB238_237.out
      have hnb15 := NB237_239.out
      have hnc15 := NB239_237.out
      have hcz16_0 : wr.cell? ⟨gb237, 0, none⟩ = some (.slice A0_0 l0_0.length c0_0) := bcx_ BK237.out 0
      have hcz16_1 : wr.cell? ⟨gb237, 1, none⟩ = some (.int .i64 a0_1) := bcx_ BK237.out 1
      have hfz16_0 := blk_frozen BK237.out 0
      have hfz16_1 := blk_frozen BK237.out 1
      have p240 : 0 ≤ (x6_1 : Int) := of_decide_eq_true (by first | (with_reducible assumption) | assumption)
      have q240 : x6_1 < (l0_0.length : Int) := of_decide_eq_true (by first | (with_reducible assumption) | assumption)
      obtain ⟨ad240, A240_2, c240_2, e240, hx240_0, hx240_1, hx240_2, hl240_2, hi240_2⟩ := at_T27 (Kd.V_reads' HO_238000.out).2.2 x6_1 p240 q240
      cases e240
      obtain ⟨ce240, hce240, hMe240, hcc240⟩ := Kd.V_get HO_238000.out z27 x6_1 p240 (by first | exact q240 | exact of_decide_eq_true (by first | (with_reducible assumption) | assumption) | (have e_ := (Kd.V_reads' HO_238000.out).1; omega))
      obtain ⟨ua240_2, uc240_2, rfl, ul240_2, ge240_2⟩ := k27_openF hMe240
      have hv240_2 := hcc240 2 _ rfl
      rw [add_field _ _ 2 (by omega)] at hv240_2
      replace hv240_2 := Option.some.inj (hv240_2.symm.trans hx240_2)
      injection hv240_2 with hva_ hvn_ hvc_
      rw [hva_] at ge240_2
      rw [hvc_] at ul240_2
      have HL240_2 := Aside0.mk (show Kd.V (Kd.int .i64) 3 _ w.heap.size _ _ ((rd_T27 l0_0 x6_1).f2) from Kd.V_mk ul240_2 ge240_2)
      clear hva_ hvn_ hvc_ ge240_2 ul240_2
      clear hcc240 hce240
      have HR240_2 := Aside0.mk hi240_2
      have HC240_2 := Aside0.mk hl240_2
      clear hi240_2 hl240_2
      replace p240 := eq_true p240
      replace q240 := eq_true q240
      go_wp2
      go_roundg k1
      case measure => have := HK1.out; omega
      case rel => exact ⟨(wrap64 (x6_1 + 1)), (x240000_1), (u240000), (by first | rfl | (simp; done) | (simp [*]; done)), H', ⟨by have := HK1.out; omega⟩, ⟨by (with_reducible repeat (first | apply Kd.V_alloc | apply Kd.V_drewN | apply Kd.V_drew)); exact HO_238000.out⟩, ⟨by (with_reducible repeat (first | apply Kd.N_alloc | apply Kd.N_drewN | apply Kd.N_drew)); exact HO_240000.out⟩, ⟨by (with_reducible repeat (first | refine blk_drewN ?_ _ | refine blk_drew ?_ | refine blk_alloc ?_ _)); exact BK237.out⟩, ⟨by (with_reducible repeat (first | refine blk_drewN ?_ _ | refine blk_drew ?_ | refine blk_alloc ?_ _)); exact BK238.out⟩, ⟨by (with_reducible repeat (first | refine blk_drewN ?_ _ | refine blk_drew ?_ | refine blk_alloc ?_ _)); exact BK239.out⟩, ⟨bx_⟩⟩
     ·
      rw [if_neg c13] at H
      have c13b0 : (((rd_T27 l0_0 x6_1).f0) == a1) = false := beq_eq_false_iff_ne.mpr c13
      have c13b1 : (((rd_T27 l0_0 x6_1).f0) != a1) = true := bne_iff_ne.mpr c13
      by_cases c17 : x240000_1.length < 3518437208883
      ·
       rw [if_pos c17] at H
       have LMc17 := Aside0.mk c17
       clear c17
       obtain ⟨y242, hy242⟩ : ∃ y_ : List (S27), y_ = (x240000_1 ++ [(⟨(rd_T27 l0_0 x6_1).f0, (rd_T27 l0_0 x6_1).f1, (rd_T27 l0_0 x6_1).f2⟩ : S27)]) := ⟨_, rfl⟩
       replace H : (trefoilref18_without.l0 k1 a1 (wrap64 (x6_1 + 1)) l0_0 a0_1 y242 a0_1) = some (r1, r2) := by first | (rw [hy242]; with_reducible exact H) | (have H2_ := (Option.bind_some _ _).symm.trans H; rw [hy242]; with_reducible exact H2_) | (have H2_ := (Option.bind_some _ _).symm.trans H; with_reducible exact H2_) | with_reducible exact H | (rw [hy242]; exact H) | exact H
       have Ny242 := Aside0.mk hy242
       clear hy242
       have H' := Aside0.mk H
       clear H
       have hnb18 := NB237_238.out
       have hnc18 := NB238_237.out
       have hnb19 := NB237_239.out
       have hnc19 := NB239_237.out
       have hcz20_0 : wr.cell? ⟨gb237, 0, none⟩ = some (.slice A0_0 l0_0.length c0_0) := bcx_ BK237.out 0
       have hcz20_1 : wr.cell? ⟨gb237, 1, none⟩ = some (.int .i64 a0_1) := bcx_ BK237.out 1
       have hfz20_0 := blk_frozen BK237.out 0
       have hfz20_1 := blk_frozen BK237.out 1
       have p240 : 0 ≤ (x6_1 : Int) := of_decide_eq_true (by first | (with_reducible assumption) | assumption)
       have q240 : x6_1 < (l0_0.length : Int) := of_decide_eq_true (by first | (with_reducible assumption) | assumption)
       obtain ⟨ad240, A240_2, c240_2, e240, hx240_0, hx240_1, hx240_2, hl240_2, hi240_2⟩ := at_T27 (Kd.V_reads' HO_238000.out).2.2 x6_1 p240 q240
       cases e240
       obtain ⟨ce240, hce240, hMe240, hcc240⟩ := Kd.V_get HO_238000.out z27 x6_1 p240 (by first | exact q240 | exact of_decide_eq_true (by first | (with_reducible assumption) | assumption) | (have e_ := (Kd.V_reads' HO_238000.out).1; omega))
       obtain ⟨ua240_2, uc240_2, rfl, ul240_2, ge240_2⟩ := k27_openF hMe240
       have hv240_2 := hcc240 2 _ rfl
       rw [add_field _ _ 2 (by omega)] at hv240_2
       replace hv240_2 := Option.some.inj (hv240_2.symm.trans hx240_2)
       injection hv240_2 with hva_ hvn_ hvc_
       rw [hva_] at ge240_2
       rw [hvc_] at ul240_2
       have HL240_2 := Aside0.mk (show Kd.V (Kd.int .i64) 3 _ w.heap.size _ _ ((rd_T27 l0_0 x6_1).f2) from Kd.V_mk ul240_2 ge240_2)
       clear hva_ hvn_ hvc_ ge240_2 ul240_2
       clear hcc240 hce240
       have HR240_2 := Aside0.mk hi240_2
       have HC240_2 := Aside0.mk hl240_2
       clear hi240_2 hl240_2
       replace p240 := eq_true p240
       replace q240 := eq_true q240
       try go_wp2
       have n0_ := Aside0.mk (Kd.V_drew HO_238000.out)
       have n1_ := Aside0.mk (Kd.N_drew HO_240000.out)
       have n2_ := Aside0.mk (Kd.V_drew HL240_2.out)
       have n3_ := Aside0.mk (blk_drew BK237.out)
       have n4_ := Aside0.mk (blk_drew BK238.out)
       have n5_ := Aside0.mk (blk_drew BK239.out)
       have n6_ := Aside0.mk (Kd.C_drew HR240_2.out)
       have n7_ := Aside0.mk (below_drew1 HB.out)
       clear HO_238000
       clear HO_240000
       clear HL240_2
       clear BK237
       clear BK238
       clear BK239
       clear HR240_2
       clear HB
       have HO_238000 := n0_
       have HO_240000 := n1_
       have HL240_2 := n2_
       have BK237 := n3_
       have BK238 := n4_
       have BK239 := n5_
       have HR240_2 := n6_
       have HB := n7_
       clear n0_ n1_ n2_ n3_ n4_ n5_ n6_ n7_
       have p241 : 0 ≤ (x6_1 : Int) := of_decide_eq_true (by first | (with_reducible assumption) | assumption)
       have q241 : x6_1 < (l0_0.length : Int) := of_decide_eq_true (by first | (with_reducible assumption) | assumption)
       obtain ⟨ad241, A241_2, c241_2, e241, hx241_0, hx241_1, hx241_2, hl241_2, hi241_2⟩ := at_T27 (Kd.V_reads' HO_238000.out).2.2 x6_1 p241 q241
       obtain rfl : ad240 = ad241 := (by injection e241)
       obtain ⟨ce241, hce241, hMe241, hcc241⟩ := Kd.V_get HO_238000.out z27 x6_1 p241 (by first | exact q241 | exact of_decide_eq_true (by first | (with_reducible assumption) | assumption) | (have e_ := (Kd.V_reads' HO_238000.out).1; omega))
       obtain ⟨ua241_2, uc241_2, rfl, ul241_2, ge241_2⟩ := k27_openF hMe241
       have hv241_2 := hcc241 2 _ rfl
       rw [add_field _ _ 2 (by omega)] at hv241_2
       replace hv241_2 := Option.some.inj (hv241_2.symm.trans hx241_2)
       injection hv241_2 with hva_ hvn_ hvc_
       rw [hva_] at ge241_2
       rw [hvc_] at ul241_2
       have HL241_2 := Aside0.mk (show Kd.V (Kd.int .i64) 3 _ w.heap.size _ _ ((rd_T27 l0_0 x6_1).f2) from Kd.V_mk ul241_2 ge241_2)
       clear hva_ hvn_ hvc_ ge241_2 ul241_2
       clear hcc241 hce241
       have HR241_2 := Aside0.mk hi241_2
       have HC241_2 := Aside0.mk hl241_2
       clear hi241_2 hl241_2
       replace p241 := eq_true p241
       replace q241 := eq_true q241
       refine start_ (n := 11) (S := fun w' => w'.cell? ⟨gb239, 0, none⟩ = some (u240000) ∧ w'.cell? ⟨gb239, 1, none⟩ = some (.int .i64 a0_1) ∧ w'.cell? ⟨gb237, 0, none⟩ = some (.slice (some ad240) l0_0.length c0_0) ∧ w'.cell? ⟨gb237, 1, none⟩ = some (.int .i64 a0_1) ∧ w'.cell? (ad240.add ((x6_1).toNat * 3)) = some (.int .i64 ((rd_T27 l0_0 x6_1).f0)) ∧ w'.cell? ⟨(ad240.add ((x6_1).toNat * 3)).block, (ad240.add ((x6_1).toNat * 3)).off + 1, none⟩ = some (.int .i64 ((rd_T27 l0_0 x6_1).f1)) ∧ w'.cell? ⟨(ad240.add ((x6_1).toNat * 3)).block, (ad240.add ((x6_1).toNat * 3)).off + 2, none⟩ = some (.slice A241_2 ((rd_T27 l0_0 x6_1).f2).length c241_2)) (ds := [8, 10]) #[false, false, false, false, false, false, false, false, false, false, false] (by kernel_rfl) rfl rfl ⟨bcx_ BK239.out 0, bcx_ BK239.out 1, bcx_ BK237.out 0, bcx_ BK237.out 1, hx241_0, hx241_1, hx241_2⟩ (fun hHeld => ?_); refine with_tabW trefoilref18_without.tab6 trefoilref18_without.bits6 (fun HT_ HW_ => ?_)
       generalize wr.drew = w21 at HO_238000 HO_240000 HL240_2 BK237 BK238 BK239 HR240_2 HB HL241_2 HR241_2 hx241_0 hx241_1 hx241_2 hHeld ⊢
       refine pure_ (i := 0) (N := some 25) (v := ?_) (a' := ?_) #[true, false, false, false, false, false, false, false, false, false, false] rfl rfl (any_of HT_.out (by kernel_rfl)) (fun _ _ _ h => h) (Or.inl ⟨by rfl, ?_⟩) ?_ ?_
       rotate_left
       ·
        intro w'
        go_simp
        with_reducible rfl
       rotate_left
       ·
        simp only [Act.put, List.setIfInBounds_toArray, List.set_cons_zero, List.set_cons_succ, i64_w, i32_w]
        rfl
       refine pure_ (i := 2) (N := some 27) (v := ?_) (a' := ?_) #[true, false, true, false, false, false, false, false, false, false, false] rfl rfl (any_of HT_.out (by kernel_rfl)) (fun _ _ _ h => h) (Or.inl ⟨by rfl, ?_⟩) ?_ ?_
       rotate_left
       ·
        intro w'
        go_simp
        with_reducible rfl
       rotate_left
       ·
        simp only [Act.put, List.setIfInBounds_toArray, List.set_cons_zero, List.set_cons_succ, i64_w, i32_w]
        rfl
       refine pure_ (i := 4) (N := some 29) (v := ?_) (a' := ?_) #[true, false, true, false, true, false, false, false, false, false, false] rfl rfl (any_of HT_.out (by kernel_rfl)) (fun _ _ _ h => h) (Or.inl ⟨by rfl, ?_⟩) ?_ ?_
       rotate_left
       ·
        intro w'
        go_simp
        with_reducible rfl
       rotate_left
       ·
        simp only [Act.put, List.setIfInBounds_toArray, List.set_cons_zero, List.set_cons_succ, i64_w, i32_w]
        rfl
       refine take_ (i := 1) (N := some 26) (v := ?_) (a' := ?_) #[true, true, true, false, true, false, false, false, false, false, false] rfl rfl (take_ofW HT_.out HW_.out (by kernel_rfl)) (fun _ _ _ h => h) (Or.inl ⟨by rfl, ?_⟩) hHeld ?_ ?_
       rotate_left
       ·
        rintro w' ⟨s0, s1, s2, s3, s4, s5, s6⟩
        go_simp
        with_reducible rfl
       rotate_left
       ·
        simp only [Act.put, List.setIfInBounds_toArray, List.set_cons_zero, List.set_cons_succ, i64_w, i32_w]
        rfl
       refine take_ (i := 3) (N := some 28) (v := ?_) (a' := ?_) #[true, true, true, true, true, false, false, false, false, false, false] rfl rfl (take_ofW HT_.out HW_.out (by kernel_rfl)) (fun _ _ _ h => h) (Or.inl ⟨by rfl, ?_⟩) hHeld ?_ ?_
       rotate_left
       ·
        rintro w' ⟨s0, s1, s2, s3, s4, s5, s6⟩
        go_simp
        with_reducible rfl
       rotate_left
       ·
        simp only [Act.put, List.setIfInBounds_toArray, List.set_cons_zero, List.set_cons_succ, i64_w, i32_w]
        rfl
       refine pure_ (i := 5) (N := some 30) (v := ?_) (a' := ?_) #[true, true, true, true, true, true, false, false, false, false, false] rfl rfl (any_of HT_.out (by kernel_rfl)) (fun _ _ _ h => h) (Or.inl ⟨by rfl, ?_⟩) ?_ ?_
       rotate_left
       ·
        intro w'
        go_simp
        with_reducible rfl
       rotate_left
       ·
        simp only [Act.put, List.setIfInBounds_toArray, List.set_cons_zero, List.set_cons_succ, i64_w, i32_w]
        rfl
       refine take_ (i := 6) (N := some 31) (v := ?_) (a' := ?_) #[true, true, true, true, true, true, true, false, false, false, false] rfl rfl (take_ofW HT_.out HW_.out (by kernel_rfl)) (fun _ _ _ h => h) (Or.inl ⟨by rfl, ?_⟩) hHeld ?_ ?_
       rotate_left
       ·
        rintro w' ⟨s0, s1, s2, s3, s4, s5, s6⟩
        go_simp
        with_reducible rfl
       rotate_left
       ·
        simp only [Act.put, List.setIfInBounds_toArray, List.set_cons_zero, List.set_cons_succ, i64_w, i32_w]
        rfl
       refine one_ (i := 7) (N := some 32) #[true, true, true, true, true, true, true, true, false, false, false] rfl rfl (one_of HT_.out (by kernel_rfl)) (by decide) (fun K hK => ?_)
       refine value_ (w1 := ?_) (v := ?_) (by rfl) rfl ?_ ?_
       rotate_left 2
       ·
        go_simp
        constructor
        · rfl
        · rfl
       refine hK.out _ _ ⟨(blk_cell (blk_alloc BK239.out _) 0).trans rfl, (blk_cell (blk_alloc BK239.out _) 1).trans rfl, (blk_cell (blk_alloc BK237.out _) 0).trans rfl, (blk_cell (blk_alloc BK237.out _) 1).trans rfl, (World.cell?_alloc_lt _ _ _ (World.block_lt_of_cell? _ _ (hHeld.2.2.2.2.1))).trans (hHeld.2.2.2.2.1), (World.cell?_alloc_lt _ _ _ (World.block_lt_of_cell? _ _ (hHeld.2.2.2.2.2.1))).trans (hHeld.2.2.2.2.2.1), (World.cell?_alloc_lt _ _ _ (World.block_lt_of_cell? _ _ (hHeld.2.2.2.2.2.2))).trans (hHeld.2.2.2.2.2.2)⟩ (fun hHeld => ?_)
       clear hK K
       refine norm_ (a' := ?_) ?_ ?_
       rotate_left
       ·
        show Act.put _ (some 32) _ = _
        simp only [Act.put, List.setIfInBounds_toArray, List.set_cons_zero, List.set_cons_succ, i64_w, i32_w]
        rfl
       refine last_ (i := 8) (N := some 33) #[true, true, true, true, true, true, true, true, true, false, false] rfl rfl (one_of HT_.out (by kernel_rfl)) (by decide) (fun K hK => ?_)
       refine Kd.N_append_step k27 (w0 := w) w.heap.size (by rfl) (.tmp 26) (.tmp 32) 22 27 (.agg #[(.int .i64 0), (.int .i64 0), (.slice none 0 0)]) 40 rfl Try.underlying22 info27 rfl (by decide) (by omega) u240000 x240000_1 (⟨(rd_T27 l0_0 x6_1).f0, (rd_T27 l0_0 x6_1).f1, (rd_T27 l0_0 x6_1).f2⟩ : S27) [.int .i64 ((rd_T27 l0_0 x6_1).f0), .int .i64 ((rd_T27 l0_0 x6_1).f1), .slice A241_2 ((rd_T27 l0_0 x6_1).f2).length c241_2] (fun k_ => (P0_0_ k_ ∨ w.heap.size ≤ k_) ∧ k_ ≠ gb237 ∧ k_ ≠ gb238 ∧ k_ ≠ gb239) (fun k_ => ((fun k_ => (P0_0_ k_ ∨ w.heap.size ≤ k_) ∧ k_ ≠ gb237 ∧ k_ ≠ gb238 ∧ k_ ≠ gb239)) k_ ∧ some k_ ≠ (u240000 : Value).ownBlock) rfl rfl ?aP (fun _ hk => hk) ?aF ?aO ?aB ?aS ?aL ?_
       (case aP => exact (k27_mkF _ _ (⟨(rd_T27 l0_0 x6_1).f0, (rd_T27 l0_0 x6_1).f1, (rd_T27 l0_0 x6_1).f2⟩ : S27) (Kd.V_reads' (Kd.V_mono (ok' := (fun k_ => ((fun k_ => (P0_0_ k_ ∨ w.heap.size ≤ k_) ∧ k_ ≠ gb237 ∧ k_ ≠ gb238 ∧ k_ ≠ gb239)) k_ ∧ some k_ ≠ (u240000 : Value).ownBlock)) (HL241_2.out) (fun k_ hk => ⟨⟨hk.1, ⟨hk.2.2.1, ⟨hk.2.2.2.1, hk.2.2.2.2⟩⟩⟩, hk.2.1⟩))).2.1 (Kd.V_F (Kd.V_mono (ok' := (fun k_ => ((fun k_ => (P0_0_ k_ ∨ w.heap.size ≤ k_) ∧ k_ ≠ gb237 ∧ k_ ≠ gb238 ∧ k_ ≠ gb239)) k_ ∧ some k_ ≠ (u240000 : Value).ownBlock)) (HL241_2.out) (fun k_ hk => ⟨⟨hk.1, ⟨hk.2.2.1, ⟨hk.2.2.2.1, hk.2.2.2.2⟩⟩⟩, hk.2.1⟩)))))
       (case aB => exact bx_)
       (case aF => exact (fun k_ hk => ⟨(.inr (Nat.le_trans (below_size bx_) hk)), Kd.freshB (g := gb237) (o := .cells #[.slice (some ad240) l0_0.length c0_0, .int .i64 a0_1] 24 (0, 0)) (bk_ BK237.out) k_ hk, Kd.freshB (g := gb238) (o := .cells #[.slice none 0 0, .int .i64 0] 24 (0, 0)) (bk_ BK238.out) k_ hk, Kd.freshB (g := gb239) (o := .cells #[u240000, .int .i64 a0_1] 24 (0, 0)) (bk_ BK239.out) k_ hk⟩))
       (case aO => exact (by (with_reducible repeat (first | apply Kd.N_alloc | apply Kd.N_drewN | apply Kd.N_drew)); exact HO_240000.out))
       (case aS => exact (below_size bx_))
       (case aL => have := LMc17.out; omega)
       intro v243 w22 ho hb hg hat
       rw [← Ny242.out] at ho
       have n0_ := Aside0.mk (Kd.V_afterv (ok := (fun k_ => (P0_0_ k_ ∨ w.heap.size ≤ k_) ∧ k_ ≠ gb237 ∧ k_ ≠ gb238 ∧ k_ ≠ gb239)) (by (with_reducible repeat (first | apply Kd.V_alloc | apply Kd.V_drewN | apply Kd.V_drew)); exact Kd.V_mono HO_238000.out (fun _ hk => ⟨⟨hk.1, ⟨hk.2.2.1, ⟨hk.2.2.2.1, hk.2.2.2.2⟩⟩⟩, hk.2.1⟩)) hg hat)
       have n1_ := Aside0.mk (blk_grown (g := gb237) (o := .cells #[.slice (some ad240) l0_0.length c0_0, .int .i64 a0_1] 24 (0, 0)) (bk_ BK237.out) hg (Kd.N_ne HO_240000.out BK237.out (by decide)))
       have n2_ := Aside0.mk (blk_grown (g := gb238) (o := .cells #[.slice none 0 0, .int .i64 0] 24 (0, 0)) (bk_ BK238.out) hg (Kd.N_ne HO_240000.out BK238.out (by decide)))
       have n3_ := Aside0.mk (blk_grown (g := gb239) (o := .cells #[u240000, .int .i64 a0_1] 24 (0, 0)) (bk_ BK239.out) hg (Kd.N_ne HO_240000.out BK239.out (by decide)))
       have n4_ := Aside0.mk (Kd.V_afterv (ok := (fun k_ => (P0_0_ k_ ∨ w.heap.size ≤ k_) ∧ k_ ≠ gb237 ∧ k_ ≠ gb238 ∧ k_ ≠ gb239)) (by (with_reducible repeat (first | apply Kd.V_alloc | apply Kd.V_drewN | apply Kd.V_drew)); exact Kd.V_mono HL240_2.out (fun _ hk => ⟨⟨hk.1, ⟨hk.2.2.1, ⟨hk.2.2.2.1, hk.2.2.2.2⟩⟩⟩, hk.2.1⟩)) hg hat)
       have n5_ := Aside0.mk (Kd.V_afterv (ok := (fun k_ => (P0_0_ k_ ∨ w.heap.size ≤ k_) ∧ k_ ≠ gb237 ∧ k_ ≠ gb238 ∧ k_ ≠ gb239)) (by (with_reducible repeat (first | apply Kd.V_alloc | apply Kd.V_drewN | apply Kd.V_drew)); exact Kd.V_mono HL241_2.out (fun _ hk => ⟨⟨hk.1, ⟨hk.2.2.1, ⟨hk.2.2.2.1, hk.2.2.2.2⟩⟩⟩, hk.2.1⟩)) hg hat)
       have n6_ := Aside0.mk (hb)
       have n7_ := Aside0.mk (ho)
       clear HO_238000
       clear BK237
       clear BK238
       clear BK239
       clear HL240_2
       clear HL241_2
       clear HB
       clear HO_240000
       have HO_238000 := n0_
       have BK237 := n1_
       have BK238 := n2_
       have BK239 := n3_
       have HL240_2 := n4_
       have HL241_2 := n5_
       have HB := n6_
       have HO244 := n7_
       clear n0_ n1_ n2_ n3_ n4_ n5_ n6_ n7_
       clear ho hb hg hat
       obtain ⟨Ao23, co23, eo23⟩ := Kd.N_slice HO244.out
       (first | subst eo23 | (injection eo23 with f1_ f2_ f3_; have f4_ := f1_.symm; have f5_ := f3_.symm; clear f1_ f2_ f3_; subst f4_; subst f5_))
       refine hK.out _ _ ?_
       clear hK K
       refine norm_ (a' := ?_) ?_ ?_
       rotate_left
       ·
        show Act.put _ (some 33) _ = _
        simp only [Act.put, List.setIfInBounds_toArray, List.set_cons_zero, List.set_cons_succ, i64_w, i32_w]
        rfl
       refine pure_ (i := 9) (N := some 34) (v := ?_) (a' := ?_) #[true, true, true, true, true, true, true, true, true, true, false] rfl rfl (any_of HT_.out (by kernel_rfl)) (fun _ _ _ h => h) (Or.inl ⟨by rfl, ?_⟩) ?_ ?_
       rotate_left
       ·
        intro w'
        go_simp
        with_reducible rfl
       rotate_left
       ·
        simp only [Act.put, List.setIfInBounds_toArray, List.set_cons_zero, List.set_cons_succ, i64_w, i32_w]
        rfl
       refine last_ (i := 10) (N := none) #[true, true, true, true, true, true, true, true, true, true, true] rfl rfl (one_of HT_.out (by kernel_rfl)) (by decide) (fun K hK => ?_)
       have hs24 : w22.cell? ⟨gb239, 0, none⟩ = some (u240000) := bcx_ BK239.out 0
       have hfs24 := blk_frozen BK239.out 0
       have hns24_0 := NB237_239.out
       have hns24_1 := NB238_239.out
       have hms24_0 := NB239_237.out
       have hms24_1 := NB239_238.out
       refine skip_ (w1 := ?_) (by rfl) rfl ?_ ?_
       rotate_left
       ·
        go_simp
        rfl
       refine hK.out _ _ ?_
       clear hK K
       refine done_ (done_of HT_.out (by kernel_rfl)) ?_
       try go_wp2
       go_roundg k1
       case measure => have := HK1.out; omega
       case rel => exact ⟨(wrap64 (x6_1 + 1)), (y242), (.slice Ao23 y242.length co23), (by first | rfl | (simp; done) | (simp [*]; done)), H', ⟨by have := HK1.out; omega⟩, ⟨by (with_reducible repeat (first | apply Kd.V_alloc | apply Kd.V_drewN | apply Kd.V_drew)); exact Kd.V_mono (Kd.V_far (p := ⟨gb239, 0, none⟩) (Kd.V_mono HO_238000.out (fun k_ hk => (⟨hk, hk.1.2.2.2⟩ : _ ∧ k_ ≠ gb239))) (fun _ hk => hk.2) (.slice Ao23 y242.length co23)) (fun _ hk => ⟨hk.1.1.1, ⟨hk.1.2, ⟨hk.1.1.2.1, ⟨hk.1.1.2.2.1, hk.1.1.2.2.2⟩⟩⟩⟩)⟩, ⟨by (with_reducible repeat (first | apply Kd.N_alloc | apply Kd.N_drewN | apply Kd.N_drew)); exact Kd.N_mono (Kd.N_far (p := ⟨gb239, 0, none⟩) (Kd.N_mono HO244.out (fun k_ hk => (⟨hk, hk.2.2.2⟩ : _ ∧ k_ ≠ gb239))) (fun _ hk => hk.2) (.slice Ao23 y242.length co23)) (fun _ hk => ⟨hk.1.1, ⟨hk.1.2.1, ⟨hk.1.2.2.1, hk.1.2.2.2⟩⟩⟩)⟩, ⟨by (with_reducible repeat (first | refine blk_drewN ?_ _ | refine blk_drew ?_ | refine blk_alloc ?_ _)); refine blk_far ?_ NB237_239.out _; (with_reducible repeat (first | refine blk_drewN ?_ _ | refine blk_drew ?_ | refine blk_alloc ?_ _)); exact BK237.out⟩, ⟨by (with_reducible repeat (first | refine blk_drewN ?_ _ | refine blk_drew ?_ | refine blk_alloc ?_ _)); refine blk_far ?_ NB238_239.out _; (with_reducible repeat (first | refine blk_drewN ?_ _ | refine blk_drew ?_ | refine blk_alloc ?_ _)); exact BK238.out⟩, ⟨by (with_reducible repeat (first | refine blk_drewN ?_ _ | refine blk_drew ?_ | refine blk_alloc ?_ _)); refine blk_put (cs := #[u240000, .int .i64 a0_1]) ?_ 0 _ rfl; (with_reducible repeat (first | refine blk_drewN ?_ _ | refine blk_drew ?_ | refine blk_alloc ?_ _)); exact BK239.out⟩, ⟨bx_⟩⟩
      ·
       rw [if_neg c17] at H
       exact absurd H (by simp)
    ·
     rw [if_neg c12] at H
     exact absurd H (by simp)
   ·
    rw [if_neg c11] at H
    have c11b0 : decide (x6_1 < (l0_0.length : Int)) = false := decide_eq_false c11
    clear c11
    by_cases c25 : a0_1 = a1
    ·
     rw [if_pos c25] at H
     have c25b0 : (a0_1 == a1) = true := beq_iff_eq.mpr c25
     have c25b1 : (a0_1 != a1) = false := bne_eq_false_iff_eq.mpr c25
     clear c25
     simp only [Option.some.injEq, Prod.mk.injEq] at H
     obtain ⟨rfl, rfl⟩ := H
     have hnb26 := NB237_238.out
     have hnc26 := NB238_237.out
     have hnb27 := NB237_239.out
     have hnc27 := NB239_237.out
     have hcz28_0 : wr.cell? ⟨gb237, 0, none⟩ = some (.slice A0_0 l0_0.length c0_0) := bcx_ BK237.out 0
     have hcz28_1 : wr.cell? ⟨gb237, 1, none⟩ = some (.int .i64 a0_1) := bcx_ BK237.out 1
     have hfz28_0 := blk_frozen BK237.out 0
     have hfz28_1 := blk_frozen BK237.out 1
     have hnb29 := NB239_238.out
     have hnc29 := NB238_239.out
     have hcz30_0 : wr.cell? ⟨gb239, 0, none⟩ = some (u240000) := bcx_ BK239.out 0
     have hcz30_1 : wr.cell? ⟨gb239, 1, none⟩ = some (.int .i64 a0_1) := bcx_ BK239.out 1
     have hfz30_0 := blk_frozen BK239.out 0
     have hfz30_1 := blk_frozen BK239.out 1
     obtain ⟨Ao31, co31, eo31⟩ := Kd.N_slice HO_240000.out
     subst eo31
     have hcz32_0 : wr.cell? ⟨gb238, 0, none⟩ = some (.slice none 0 0) := bcx_ BK238.out 0
     have hcz32_1 : wr.cell? ⟨gb238, 1, none⟩ = some (.int .i64 0) := bcx_ BK238.out 1
     have hfz32_0 := blk_frozen BK238.out 0
     have hfz32_1 := blk_frozen BK238.out 1
     go_wp2
     refine bodyPost_ret (results_cell_row rfl _ _ gb238 24 #[.slice Ao31 x240000_1.length co31, .int .i64 (-1)] (0, 0) _ rfl (by (with_reducible repeat (first | refine blk_drewN ?_ _ | refine blk_drew ?_ | refine blk_alloc ?_ _)); refine blk_put (cs := #[.slice Ao31 x240000_1.length co31, .int .i64 0]) ?_ 1 _ rfl; (with_reducible repeat (first | refine blk_drewN ?_ _ | refine blk_drew ?_ | refine blk_alloc ?_ _)); refine blk_put (cs := #[.slice none 0 0, .int .i64 0]) ?_ 0 _ rfl; (with_reducible repeat (first | refine blk_drewN ?_ _ | refine blk_drew ?_ | refine blk_alloc ?_ _)); refine blk_far ?_ NB238_239.out _; (with_reducible repeat (first | refine blk_drewN ?_ _ | refine blk_drew ?_ | refine blk_alloc ?_ _)); exact BK238.out) Try.underlying24 rfl (by kernel_rfl)) rfl ?_
     exact ⟨_, by first | rfl | (simp [errW_none, errW_some] <;> rfl) | (simp [*, errW_none, errW_some] <;> rfl), by (with_reducible repeat (first | apply Kd.N_alloc | apply Kd.N_drewN | apply Kd.N_drew)); exact Kd.N_mono (Kd.N_far (p := ⟨gb238, 1, none⟩) (Kd.N_far (p := ⟨gb238, 0, none⟩) (Kd.N_far (p := ⟨gb239, 1, none⟩) (Kd.N_mono (Kd.N_mono HO_240000.out (fun k_ hk => (⟨hk, hk.2.2.2⟩ : _ ∧ k_ ≠ gb239))) (fun k_ hk => (⟨hk, hk.1.2.2.1⟩ : _ ∧ k_ ≠ gb238))) (fun _ hk => hk.1.2) (.int .i64 (-1))) (fun _ hk => hk.2) (.slice Ao31 x240000_1.length co31)) (fun _ hk => hk.2) (.int .i64 (-1))) (fun _ hk => hk.1.1.1), bx_⟩
    ·
     rw [if_neg c25] at H
     have c25b0 : (a0_1 == a1) = false := beq_eq_false_iff_ne.mpr c25
     have c25b1 : (a0_1 != a1) = true := bne_iff_ne.mpr c25
     simp only [Option.some.injEq, Prod.mk.injEq] at H
     obtain ⟨rfl, rfl⟩ := H
     have hnb33 := NB237_238.out
     have hnc33 := NB238_237.out
     have hnb34 := NB237_239.out
     have hnc34 := NB239_237.out
     have hcz35_0 : wr.cell? ⟨gb237, 0, none⟩ = some (.slice A0_0 l0_0.length c0_0) := bcx_ BK237.out 0
     have hcz35_1 : wr.cell? ⟨gb237, 1, none⟩ = some (.int .i64 a0_1) := bcx_ BK237.out 1
     have hfz35_0 := blk_frozen BK237.out 0
     have hfz35_1 := blk_frozen BK237.out 1
     have hnb36 := NB239_238.out
     have hnc36 := NB238_239.out
     have hcz37_0 : wr.cell? ⟨gb239, 0, none⟩ = some (u240000) := bcx_ BK239.out 0
     have hcz37_1 : wr.cell? ⟨gb239, 1, none⟩ = some (.int .i64 a0_1) := bcx_ BK239.out 1
     have hfz37_0 := blk_frozen BK239.out 0
     have hfz37_1 := blk_frozen BK239.out 1
     obtain ⟨Ao38, co38, eo38⟩ := Kd.N_slice HO_240000.out
     subst eo38
     have hcz39_0 : wr.cell? ⟨gb238, 0, none⟩ = some (.slice none 0 0) := bcx_ BK238.out 0
     have hcz39_1 : wr.cell? ⟨gb238, 1, none⟩ = some (.int .i64 0) := bcx_ BK238.out 1
     have hfz39_0 := blk_frozen BK238.out 0
     have hfz39_1 := blk_frozen BK238.out 1
     go_wp2
     refine bodyPost_ret (results_cell_row rfl _ _ gb238 24 #[.slice Ao38 x240000_1.length co38, .int .i64 a0_1] (0, 0) _ rfl (by (with_reducible repeat (first | refine blk_drewN ?_ _ | refine blk_drew ?_ | refine blk_alloc ?_ _)); refine blk_put (cs := #[.slice Ao38 x240000_1.length co38, .int .i64 0]) ?_ 1 _ rfl; (with_reducible repeat (first | refine blk_drewN ?_ _ | refine blk_drew ?_ | refine blk_alloc ?_ _)); refine blk_put (cs := #[.slice none 0 0, .int .i64 0]) ?_ 0 _ rfl; (with_reducible repeat (first | refine blk_drewN ?_ _ | refine blk_drew ?_ | refine blk_alloc ?_ _)); exact BK238.out) Try.underlying24 rfl (by kernel_rfl)) rfl ?_
     exact ⟨_, by first | rfl | (simp [errW_none, errW_some] <;> rfl) | (simp [*, errW_none, errW_some] <;> rfl), by (with_reducible repeat (first | apply Kd.N_alloc | apply Kd.N_drewN | apply Kd.N_drew)); exact Kd.N_mono (Kd.N_far (p := ⟨gb238, 1, none⟩) (Kd.N_far (p := ⟨gb238, 0, none⟩) (Kd.N_mono HO_240000.out (fun k_ hk => (⟨hk, hk.2.2.1⟩ : _ ∧ k_ ≠ gb238))) (fun _ hk => hk.2) (.slice Ao38 x240000_1.length co38)) (fun _ hk => hk.2) (.int .i64 a0_1)) (fun _ hk => hk.1.1), bx_⟩
/-! ### trefoilref18_Drop: function 14 -/
def trefoilref18_Drop.f (k : Nat) (l0_0 : List (S27)) (a0_1 : Int) (a1 : Int) : Option ((List (S27)) × Int × Int) := (trefoilref18_Check.f k l0_0 a0_1).bind fun t247 => (if t247 = true then ((trefoilref18_Has.f k l0_0 a0_1 a1).bind fun t248 => (if t248 = true then ((trefoilref18_without.f k l0_0 a0_1 a1).bind fun bt249 => (some (bt249.1, bt249.2, 0))) else (some (([] : List (S27)), 0, 181)))) else (some (([] : List (S27)), 0, 180)))
theorem trefoilref18_Drop.mono : ∀ a0 a1 a2 k, LeO (trefoilref18_Drop.f k a0 a1 a2) (trefoilref18_Drop.f (k + 1) a0 a1 a2) := by
 intro a0 a1 a2 k
 unfold trefoilref18_Drop.f
 repeat' first
  | (with_reducible exact trefoilref18_Check.mono _ _ _)
  | (with_reducible exact trefoilref18_Has.mono _ _ _ _)
  | (with_reducible exact trefoilref18_without.mono _ _ _ _)
  | (with_reducible exact LeO.refl _)
  | (with_reducible exact LeO.none _)
  | (with_reducible refine LeO.ite ?_ ?_)
  | (with_reducible refine LeO.bind ?_ (fun _ => ?_))
  | exact trefoilref18_Check.mono _ _ _
  | exact trefoilref18_Has.mono _ _ _ _
  | exact trefoilref18_without.mono _ _ _ _
  | exact LeO.none _
  | refine LeO.ite ?_ ?_
  | refine LeO.bind ?_ (fun _ => ?_)
set_option maxHeartbeats 8000000 in
set_option maxRecDepth 100000 in
theorem trefoilref18_Drop.calls (k : Nat) (P0_0_ : Nat → Prop) (A0_0 : Option Addr) (c0_0 : Nat) (l0_0 : List (S27)) (a0_1 : Int) (a1 : Int) (r1 : List (S27)) (r2 : Int) (r3 : Int) (w : World) (hs0_0 : Kd.V k27 27 w w.heap.size (fun k_ => P0_0_ k_) (.slice A0_0 l0_0.length c0_0) l0_0) (h : trefoilref18_Drop.f k l0_0 a0_1 a1 = some (r1, r2, r3)) :
 Calls Try.prog 14 #[.agg #[.slice A0_0 l0_0.length c0_0, .int .i64 a0_1], .int .i64 a1] w fun e w' => ∃ v0_ : Value, e = .returned (.tuple #[.agg #[v0_, .int .i64 r2], .int .i64 r3]) ∧ Kd.N k27 27 w' w.heap.size (fun k_ => (P0_0_ k_ ∨ w.heap.size ≤ k_)) v0_ r1 ∧ Below w.heap.size w w' := by
 have hu24 := Try.underlying24
 have HO0_0 := Aside0.mk (show Kd.V k27 27 w w.heap.size (fun k_ => (P0_0_ k_ ∨ w.heap.size ≤ k_)) (.slice A0_0 l0_0.length c0_0) l0_0 from Kd.V_mono hs0_0 (fun k_ hk => .inl hk))
 have HB := Aside0.mk (Below.refl w.heap.size w)
 have H : ((trefoilref18_Check.f k l0_0 a0_1).bind fun t247 => (if t247 = true then ((trefoilref18_Has.f k l0_0 a0_1 a1).bind fun t248 => (if t248 = true then ((trefoilref18_without.f k l0_0 a0_1 a1).bind fun bt249 => (some (bt249.1, bt249.2, 0))) else (some (([] : List (S27)), 0, 181)))) else (some (([] : List (S27)), 0, 180)))) = some (r1, r2, r3) := h
 clear h
 replace H := Option.bind_eq_some_iff.mp H
 obtain ⟨t247, A30, H⟩ := H
 replace H : (if t247 = true then ((trefoilref18_Has.f k l0_0 a0_1 a1).bind fun t248 => (if t248 = true then ((trefoilref18_without.f k l0_0 a0_1 a1).bind fun bt249 => (some (bt249.1, bt249.2, 0))) else (some (([] : List (S27)), 0, 181)))) else (some (([] : List (S27)), 0, 180))) = some (r1, r2, r3) := H
 have A3 := Aside0.mk A30
 clear A30
 by_cases c4 : t247 = true
 ·
  subst c4
  have H1 : ((trefoilref18_Has.f k l0_0 a0_1 a1).bind fun t248 => (if t248 = true then ((trefoilref18_without.f k l0_0 a0_1 a1).bind fun bt249 => (some (bt249.1, bt249.2, 0))) else (some (([] : List (S27)), 0, 181)))) = some (r1, r2, r3) := by rw [if_pos rfl] at H; exact H
  clear H
  have H := H1
  clear H1
  replace H := Option.bind_eq_some_iff.mp H
  obtain ⟨t248, A50, H⟩ := H
  replace H : (if t248 = true then ((trefoilref18_without.f k l0_0 a0_1 a1).bind fun bt249 => (some (bt249.1, bt249.2, 0))) else (some (([] : List (S27)), 0, 181))) = some (r1, r2, r3) := H
  have A5 := Aside0.mk A50
  clear A50
  by_cases c6 : t248 = true
  ·
   subst c6
   have H1 : ((trefoilref18_without.f k l0_0 a0_1 a1).bind fun bt249 => (some (bt249.1, bt249.2, 0))) = some (r1, r2, r3) := by rw [if_pos rfl] at H; exact H
   clear H
   have H := H1
   clear H1
   replace H := Option.bind_eq_some_iff.mp H
   obtain ⟨⟨t249, t252⟩, A70, H⟩ := H
   replace H : (some (t249, t252, 0)) = some (r1, r2, r3) := H
   have A7 := Aside0.mk A70
   clear A70
   simp only [Option.some.injEq, Prod.mk.injEq] at H
   obtain ⟨rfl, rfl, rfl⟩ := H
   go_enter Try.func14, Try.ntmps14
   go_wp2_with (first | ((with_reducible refine gate_dst (N := 2) rfl ?_); refine box_event ?hg (N := 2) ?hd (cs := #[.slice A0_0 l0_0.length c0_0, .int .i64 a0_1]) (t := 24) ?hr ?_; (case hd => rfl); (case hg => rfl); (case hr => first | (go_simp; done) | (go_simp; rfl)); intro gb245 hg w8 hbox hb; have n0_ := Aside0.mk (Kd.V_below (Kd.V_elderB (kV_ HO0_0.out) gb245 (Nat.le_of_eq hg.symm)) hb); have n1_ := Aside0.mk (below_step bw_ hb); have n2_ := Aside0.mk (hbox); have n3_ := Aside0.mk ((by rw [hg]; exact (below_size bw_) : w.heap.size ≤ gb245)); have n4_ := Aside0.mk ((by rw [hg]; exact (below_size bw_) : w.heap.size ≤ gb245)); clear HO0_0; clear HB; have HO0_0 := n0_; have HB := n1_; have BK245 := n2_; have GW245 := n3_; have GE245 := n4_; clear n0_ n1_ n2_ n3_ n4_; clear hb hbox hg) | ((with_reducible refine gate_dst (N := 4) rfl ?_); refine box_event ?hg (N := 4) ?hd (cs := #[.slice none 0 0, .int .i64 0]) (t := 24) ?hr ?_; (case hd => rfl); (case hg => rfl); (case hr => first | (go_simp; done) | (go_simp; rfl)); intro gb246 hg w9 hbox hb; have n0_ := Aside0.mk (Kd.V_below (Kd.V_elderB (kV_ HO0_0.out) gb246 (Nat.le_of_eq hg.symm)) hb); have n1_ := Aside0.mk (blk_below (bk_ BK245.out) hb); have n2_ := Aside0.mk (below_step bx_ hb); have n3_ := Aside0.mk (hbox); have n4_ := Aside0.mk ((by rw [hg]; exact (below_size bx_) : w.heap.size ≤ gb246)); have n5_ := Aside0.mk ((by rw [hg]; exact (below_size bx_) : w.heap.size ≤ gb246)); have n6_ := Aside0.mk ((by rw [hg]; exact Nat.ne_of_lt (blk_lt (bk_ BK245.out)) : gb245 ≠ gb246)); have n7_ := Aside0.mk ((by rw [hg]; exact Nat.ne_of_gt (blk_lt (bk_ BK245.out)) : gb246 ≠ gb245)); clear HO0_0; clear BK245; clear HB; have HO0_0 := n0_; have BK245 := n1_; have HB := n2_; have BK246 := n3_; have GW246 := n4_; have GE246 := n5_; have NB245_246 := n6_; have NB246_245 := n7_; clear n0_ n1_ n2_ n3_ n4_ n5_ n6_ n7_; clear hb hbox hg; have hnb10 := NB245_246.out; have hnc10 := NB246_245.out; have hcz11_0 : w9.cell? ⟨gb245, 0, none⟩ = some (.slice A0_0 l0_0.length c0_0) := bcx_ BK245.out 0; have hcz11_1 : w9.cell? ⟨gb245, 1, none⟩ = some (.int .i64 a0_1) := bcx_ BK245.out 1; have hfz11_0 := blk_frozen BK245.out 0; have hfz11_1 := blk_frozen BK245.out 1) | ((with_reducible refine gate_callee (f := 17) rfl ?_); refine goesL_ (some 7) rfl rfl Try.func17 (by kernel_rfl) rfl #[.agg #[.slice A0_0 l0_0.length c0_0, .int .i64 a0_1]] rfl (by (try simp only [List.map_toArray, List.map_cons, List.map_nil]); first | done | rfl | (simp only [List.length_drop, List.length_take]; rfl)) ?_; (with_reducible refine (trefoilref18_Check.calls k _ _ l0_0 a0_1 true _ ?side1 ?side2 A3.out).mono ?_); (case side1 => repeat (first | exact (Kd.V_reads' HO0_0.out).2.2 | (with_reducible refine Kd.C_alloc ?_ _) | (with_reducible refine Kd.C_drewN ?_ _) | (with_reducible refine Kd.C_drew ?_))); (case side2 => exact (Kd.V_reads' HO0_0.out).2.1); rintro e w12 ⟨rfl, hb⟩; refine ⟨_, rfl, ?_⟩; have n0_ := Aside0.mk (Kd.V_below (kV_ HO0_0.out) hb); have n1_ := Aside0.mk (blk_below (bk_ BK245.out) hb); have n2_ := Aside0.mk (blk_below (bk_ BK246.out) hb); have n3_ := Aside0.mk (below_step bx_ hb); clear HO0_0; clear BK245; clear BK246; clear HB; have HO0_0 := n0_; have BK245 := n1_; have BK246 := n2_; have HB := n3_; clear n0_ n1_ n2_ n3_; (try clear hb); (try clear hb2); (try clear hk); (try clear hi); have hcz13_0 : w12.cell? ⟨gb245, 0, none⟩ = some (.slice A0_0 l0_0.length c0_0) := bcx_ BK245.out 0; have hcz13_1 : w12.cell? ⟨gb245, 1, none⟩ = some (.int .i64 a0_1) := bcx_ BK245.out 1; have hfz13_0 := blk_frozen BK245.out 0; have hfz13_1 := blk_frozen BK245.out 1) | ((with_reducible refine gate_callee (f := 24) rfl ?_); refine goesL_ (some 12) rfl rfl Try.func24 (by kernel_rfl) rfl #[.agg #[.slice A0_0 l0_0.length c0_0, .int .i64 a0_1], .int .i64 a1] rfl (by (try simp only [List.map_toArray, List.map_cons, List.map_nil]); first | done | rfl | (simp only [List.length_drop, List.length_take]; rfl)) ?_; (with_reducible refine (trefoilref18_Has.calls k _ _ l0_0 a0_1 a1 true _ ?side1 ?side2 A5.out).mono ?_); (case side1 => repeat (first | exact (Kd.V_reads' HO0_0.out).2.2 | (with_reducible refine Kd.C_alloc ?_ _) | (with_reducible refine Kd.C_drewN ?_ _) | (with_reducible refine Kd.C_drew ?_))); (case side2 => exact (Kd.V_reads' HO0_0.out).2.1); rintro e w14 ⟨rfl, hb⟩; refine ⟨_, rfl, ?_⟩; have n0_ := Aside0.mk (Kd.V_below (kV_ HO0_0.out) hb); have n1_ := Aside0.mk (blk_below (bk_ BK245.out) hb); have n2_ := Aside0.mk (blk_below (bk_ BK246.out) hb); have n3_ := Aside0.mk (below_step bx_ hb); clear HO0_0; clear BK245; clear BK246; clear HB; have HO0_0 := n0_; have BK245 := n1_; have BK246 := n2_; have HB := n3_; clear n0_ n1_ n2_ n3_; (try clear hb); (try clear hb2); (try clear hk); (try clear hi); have hcz15_0 : w14.cell? ⟨gb245, 0, none⟩ = some (.slice A0_0 l0_0.length c0_0) := bcx_ BK245.out 0; have hcz15_1 : w14.cell? ⟨gb245, 1, none⟩ = some (.int .i64 a0_1) := bcx_ BK245.out 1; have hfz15_0 := blk_frozen BK245.out 0; have hfz15_1 := blk_frozen BK245.out 1) | ((with_reducible refine gate_callee (f := 32) rfl ?_); refine goesL_ (some 17) rfl rfl Try.func32 (by kernel_rfl) rfl #[.agg #[.slice A0_0 l0_0.length c0_0, .int .i64 a0_1], .int .i64 a1] rfl (by (try simp only [List.map_toArray, List.map_cons, List.map_nil]); first | done | rfl | (simp only [List.length_drop, List.length_take]; rfl)) ?_; (with_reducible refine (trefoilref18_without.calls k (fun k_ => (((P0_0_ k_ ∨ w.heap.size ≤ k_) ∧ k_ ≠ gb245) ∧ k_ ≠ gb246)) _ _ l0_0 a0_1 a1 t249 t252 _ ?side1 A7.out).mono ?_); (case side1 => exact HO0_0.out); rintro e w16 ⟨v250, rfl, ho0, hb⟩; refine ⟨_, rfl, ?_⟩; have n0_ := Aside0.mk (Kd.V_elder' (kV_ HO0_0.out) (Kd.N_base ho0) hb); have n1_ := Aside0.mk (Kd.N_lower (Kd.N_mono (ok' := fun k_ => (P0_0_ k_ ∨ w.heap.size ≤ k_) ∧ k_ ≠ gb245 ∧ k_ ≠ gb246) ho0 (fun k_ hk_ => ⟨Or.elim hk_ (fun hs_ => hs_.1.1) (fun hn_ => (.inr (Nat.le_trans (below_size bx_) hn_))), Or.elim hk_ (fun hs_ => hs_.1.2) (fun hn_ => (Kd.freshB (g := gb245) (o := .cells #[.slice A0_0 l0_0.length c0_0, .int .i64 a0_1] 24 (0, 0)) (bk_ BK245.out) k_ hn_)), Or.elim hk_ (fun hs_ => hs_.2) (fun hn_ => (Kd.freshB (g := gb246) (o := .cells #[.slice none 0 0, .int .i64 0] 24 (0, 0)) (bk_ BK246.out) k_ hn_))⟩)) (below_size bx_)); have n2_ := Aside0.mk (blk_below (bk_ BK245.out) hb); have n3_ := Aside0.mk (blk_below (bk_ BK246.out) hb); have n4_ := Aside0.mk (below_step bx_ hb); clear HO0_0; clear BK245; clear BK246; clear HB; have HO0_0 := n0_; have HO251 := n1_; have BK245 := n2_; have BK246 := n3_; have HB := n4_; clear n0_ n1_ n2_ n3_ n4_; (try clear hb); (try clear hb2); (try clear hk); (try clear hi); (try clear ho0); obtain ⟨Ao17, co17, eo17⟩ := Kd.N_slice HO251.out; subst eo17; have hcz18_0 : w16.cell? ⟨gb246, 0, none⟩ = some (.slice none 0 0) := bcx_ BK246.out 0; have hcz18_1 : w16.cell? ⟨gb246, 1, none⟩ = some (.int .i64 0) := bcx_ BK246.out 1; have hfz18_0 := blk_frozen BK246.out 0; have hfz18_1 := blk_frozen BK246.out 1))
   refine bodyPost_ret (results_ct rfl _ _ gb246 24 #[.slice Ao17 t249.length co17, .int .i64 t252] (0, 0) _ rfl (by (with_reducible repeat (first | refine blk_drewN ?_ _ | refine blk_drew ?_ | refine blk_alloc ?_ _)); refine blk_put (cs := #[.slice Ao17 t249.length co17, .int .i64 0]) ?_ 1 _ rfl; (with_reducible repeat (first | refine blk_drewN ?_ _ | refine blk_drew ?_ | refine blk_alloc ?_ _)); refine blk_put (cs := #[.slice none 0 0, .int .i64 0]) ?_ 0 _ rfl; (with_reducible repeat (first | refine blk_drewN ?_ _ | refine blk_drew ?_ | refine blk_alloc ?_ _)); exact BK246.out) Try.underlying24 rfl (by kernel_rfl)) rfl ?_
   exact ⟨_, by first | rfl | (simp [errW_none, errW_some] <;> rfl) | (simp [*, errW_none, errW_some] <;> rfl), by (with_reducible repeat (first | apply Kd.N_alloc | apply Kd.N_drewN | apply Kd.N_drew)); exact Kd.N_mono (Kd.N_far (p := ⟨gb246, 1, none⟩) (Kd.N_far (p := ⟨gb246, 0, none⟩) (Kd.N_mono HO251.out (fun k_ hk => (⟨hk, hk.2.2⟩ : _ ∧ k_ ≠ gb246))) (fun _ hk => hk.2) (.slice Ao17 t249.length co17)) (fun _ hk => hk.2) (.int .i64 t252)) (fun _ hk => hk.1.1), bx_⟩
  ·
   replace c6 := Bool.eq_false_iff.mpr c6
   subst c6
   have H1 : (some (([] : List (S27)), 0, 181)) = some (r1, r2, r3) := by rw [if_neg (show ¬ (false = true) by decide)] at H; exact H
   clear H
   have H := H1
   clear H1
   simp only [Option.some.injEq, Prod.mk.injEq] at H
   obtain ⟨rfl, rfl, rfl⟩ := H
   go_enter Try.func14, Try.ntmps14
   go_wp2_with (first | ((with_reducible refine gate_dst (N := 2) rfl ?_); refine box_event ?hg (N := 2) ?hd (cs := #[.slice A0_0 l0_0.length c0_0, .int .i64 a0_1]) (t := 24) ?hr ?_; (case hd => rfl); (case hg => rfl); (case hr => first | (go_simp; done) | (go_simp; rfl)); intro gb245 hg w19 hbox hb; have n0_ := Aside0.mk (Kd.V_below (Kd.V_elderB (kV_ HO0_0.out) gb245 (Nat.le_of_eq hg.symm)) hb); have n1_ := Aside0.mk (below_step bw_ hb); have n2_ := Aside0.mk (hbox); have n3_ := Aside0.mk ((by rw [hg]; exact (below_size bw_) : w.heap.size ≤ gb245)); have n4_ := Aside0.mk ((by rw [hg]; exact (below_size bw_) : w.heap.size ≤ gb245)); clear HO0_0; clear HB; have HO0_0 := n0_; have HB := n1_; have BK245 := n2_; have GW245 := n3_; have GE245 := n4_; clear n0_ n1_ n2_ n3_ n4_; clear hb hbox hg) | ((with_reducible refine gate_dst (N := 4) rfl ?_); refine box_event ?hg (N := 4) ?hd (cs := #[.slice none 0 0, .int .i64 0]) (t := 24) ?hr ?_; (case hd => rfl); (case hg => rfl); (case hr => first | (go_simp; done) | (go_simp; rfl)); intro gb246 hg w20 hbox hb; have n0_ := Aside0.mk (Kd.V_below (Kd.V_elderB (kV_ HO0_0.out) gb246 (Nat.le_of_eq hg.symm)) hb); have n1_ := Aside0.mk (blk_below (bk_ BK245.out) hb); have n2_ := Aside0.mk (below_step bx_ hb); have n3_ := Aside0.mk (hbox); have n4_ := Aside0.mk ((by rw [hg]; exact (below_size bx_) : w.heap.size ≤ gb246)); have n5_ := Aside0.mk ((by rw [hg]; exact (below_size bx_) : w.heap.size ≤ gb246)); have n6_ := Aside0.mk ((by rw [hg]; exact Nat.ne_of_lt (blk_lt (bk_ BK245.out)) : gb245 ≠ gb246)); have n7_ := Aside0.mk ((by rw [hg]; exact Nat.ne_of_gt (blk_lt (bk_ BK245.out)) : gb246 ≠ gb245)); clear HO0_0; clear BK245; clear HB; have HO0_0 := n0_; have BK245 := n1_; have HB := n2_; have BK246 := n3_; have GW246 := n4_; have GE246 := n5_; have NB245_246 := n6_; have NB246_245 := n7_; clear n0_ n1_ n2_ n3_ n4_ n5_ n6_ n7_; clear hb hbox hg; have hnb21 := NB245_246.out; have hnc21 := NB246_245.out; have hcz22_0 : w20.cell? ⟨gb245, 0, none⟩ = some (.slice A0_0 l0_0.length c0_0) := bcx_ BK245.out 0; have hcz22_1 : w20.cell? ⟨gb245, 1, none⟩ = some (.int .i64 a0_1) := bcx_ BK245.out 1; have hfz22_0 := blk_frozen BK245.out 0; have hfz22_1 := blk_frozen BK245.out 1) | ((with_reducible refine gate_callee (f := 17) rfl ?_); refine goesL_ (some 7) rfl rfl Try.func17 (by kernel_rfl) rfl #[.agg #[.slice A0_0 l0_0.length c0_0, .int .i64 a0_1]] rfl (by (try simp only [List.map_toArray, List.map_cons, List.map_nil]); first | done | rfl | (simp only [List.length_drop, List.length_take]; rfl)) ?_; (with_reducible refine (trefoilref18_Check.calls k _ _ l0_0 a0_1 true _ ?side1 ?side2 A3.out).mono ?_); (case side1 => repeat (first | exact (Kd.V_reads' HO0_0.out).2.2 | (with_reducible refine Kd.C_alloc ?_ _) | (with_reducible refine Kd.C_drewN ?_ _) | (with_reducible refine Kd.C_drew ?_))); (case side2 => exact (Kd.V_reads' HO0_0.out).2.1); rintro e w23 ⟨rfl, hb⟩; refine ⟨_, rfl, ?_⟩; have n0_ := Aside0.mk (Kd.V_below (kV_ HO0_0.out) hb); have n1_ := Aside0.mk (blk_below (bk_ BK245.out) hb); have n2_ := Aside0.mk (blk_below (bk_ BK246.out) hb); have n3_ := Aside0.mk (below_step bx_ hb); clear HO0_0; clear BK245; clear BK246; clear HB; have HO0_0 := n0_; have BK245 := n1_; have BK246 := n2_; have HB := n3_; clear n0_ n1_ n2_ n3_; (try clear hb); (try clear hb2); (try clear hk); (try clear hi); have hcz24_0 : w23.cell? ⟨gb245, 0, none⟩ = some (.slice A0_0 l0_0.length c0_0) := bcx_ BK245.out 0; have hcz24_1 : w23.cell? ⟨gb245, 1, none⟩ = some (.int .i64 a0_1) := bcx_ BK245.out 1; have hfz24_0 := blk_frozen BK245.out 0; have hfz24_1 := blk_frozen BK245.out 1) | ((with_reducible refine gate_callee (f := 24) rfl ?_); refine goesL_ (some 12) rfl rfl Try.func24 (by kernel_rfl) rfl #[.agg #[.slice A0_0 l0_0.length c0_0, .int .i64 a0_1], .int .i64 a1] rfl (by (try simp only [List.map_toArray, List.map_cons, List.map_nil]); first | done | rfl | (simp only [List.length_drop, List.length_take]; rfl)) ?_; (with_reducible refine (trefoilref18_Has.calls k _ _ l0_0 a0_1 a1 false _ ?side1 ?side2 A5.out).mono ?_); (case side1 => repeat (first | exact (Kd.V_reads' HO0_0.out).2.2 | (with_reducible refine Kd.C_alloc ?_ _) | (with_reducible refine Kd.C_drewN ?_ _) | (with_reducible refine Kd.C_drew ?_))); (case side2 => exact (Kd.V_reads' HO0_0.out).2.1); rintro e w25 ⟨rfl, hb⟩; refine ⟨_, rfl, ?_⟩; have n0_ := Aside0.mk (Kd.V_below (kV_ HO0_0.out) hb); have n1_ := Aside0.mk (blk_below (bk_ BK245.out) hb); have n2_ := Aside0.mk (blk_below (bk_ BK246.out) hb); have n3_ := Aside0.mk (below_step bx_ hb); clear HO0_0; clear BK245; clear BK246; clear HB; have HO0_0 := n0_; have BK245 := n1_; have BK246 := n2_; have HB := n3_; clear n0_ n1_ n2_ n3_; (try clear hb); (try clear hb2); (try clear hk); (try clear hi); have hcz26_0 : w25.cell? ⟨gb246, 0, none⟩ = some (.slice none 0 0) := bcx_ BK246.out 0; have hcz26_1 : w25.cell? ⟨gb246, 1, none⟩ = some (.int .i64 0) := bcx_ BK246.out 1; have hfz26_0 := blk_frozen BK246.out 0; have hfz26_1 := blk_frozen BK246.out 1))
   refine bodyPost_ret (results_ct rfl _ _ gb246 24 #[.slice none 0 0, .int .i64 0] (0, 0) _ rfl (by (with_reducible repeat (first | refine blk_drewN ?_ _ | refine blk_drew ?_ | refine blk_alloc ?_ _)); refine blk_put (cs := #[.slice none 0 0, .int .i64 0]) ?_ 1 _ rfl; (with_reducible repeat (first | refine blk_drewN ?_ _ | refine blk_drew ?_ | refine blk_alloc ?_ _)); refine blk_put (cs := #[.slice none 0 0, .int .i64 0]) ?_ 0 _ rfl; (with_reducible repeat (first | refine blk_drewN ?_ _ | refine blk_drew ?_ | refine blk_alloc ?_ _)); exact BK246.out) Try.underlying24 rfl (by kernel_rfl)) rfl ?_
   exact ⟨_, by first | rfl | (simp [errW_none, errW_some] <;> rfl) | (simp [*, errW_none, errW_some] <;> rfl), by first | exact Kd.S_nil _ _ _ _ _ | exact Kd.N_nil _ _ _ _ _ | exact Kd.V_nil _ _ _ _ _ | exact Kd.Q_nil _ _ _ _ _ | exact Kd.R_nil _ _ _ _ _, bx_⟩
 ·
  replace c4 := Bool.eq_false_iff.mpr c4
  subst c4
  have H1 : (some (([] : List (S27)), 0, 180)) = some (r1, r2, r3) := by rw [if_neg (show ¬ (false = true) by decide)] at H; exact H
  clear H
  have H := H1
  clear H1
  simp only [Option.some.injEq, Prod.mk.injEq] at H
  obtain ⟨rfl, rfl, rfl⟩ := H
  go_enter Try.func14, Try.ntmps14
  go_wp2_with (first | ((with_reducible refine gate_dst (N := 2) rfl ?_); refine box_event ?hg (N := 2) ?hd (cs := #[.slice A0_0 l0_0.length c0_0, .int .i64 a0_1]) (t := 24) ?hr ?_; (case hd => rfl); (case hg => rfl); (case hr => first | (go_simp; done) | (go_simp; rfl)); intro gb245 hg w27 hbox hb; have n0_ := Aside0.mk (Kd.V_below (Kd.V_elderB (kV_ HO0_0.out) gb245 (Nat.le_of_eq hg.symm)) hb); have n1_ := Aside0.mk (below_step bw_ hb); have n2_ := Aside0.mk (hbox); have n3_ := Aside0.mk ((by rw [hg]; exact (below_size bw_) : w.heap.size ≤ gb245)); have n4_ := Aside0.mk ((by rw [hg]; exact (below_size bw_) : w.heap.size ≤ gb245)); clear HO0_0; clear HB; have HO0_0 := n0_; have HB := n1_; have BK245 := n2_; have GW245 := n3_; have GE245 := n4_; clear n0_ n1_ n2_ n3_ n4_; clear hb hbox hg) | ((with_reducible refine gate_dst (N := 4) rfl ?_); refine box_event ?hg (N := 4) ?hd (cs := #[.slice none 0 0, .int .i64 0]) (t := 24) ?hr ?_; (case hd => rfl); (case hg => rfl); (case hr => first | (go_simp; done) | (go_simp; rfl)); intro gb246 hg w28 hbox hb; have n0_ := Aside0.mk (Kd.V_below (Kd.V_elderB (kV_ HO0_0.out) gb246 (Nat.le_of_eq hg.symm)) hb); have n1_ := Aside0.mk (blk_below (bk_ BK245.out) hb); have n2_ := Aside0.mk (below_step bx_ hb); have n3_ := Aside0.mk (hbox); have n4_ := Aside0.mk ((by rw [hg]; exact (below_size bx_) : w.heap.size ≤ gb246)); have n5_ := Aside0.mk ((by rw [hg]; exact (below_size bx_) : w.heap.size ≤ gb246)); have n6_ := Aside0.mk ((by rw [hg]; exact Nat.ne_of_lt (blk_lt (bk_ BK245.out)) : gb245 ≠ gb246)); have n7_ := Aside0.mk ((by rw [hg]; exact Nat.ne_of_gt (blk_lt (bk_ BK245.out)) : gb246 ≠ gb245)); clear HO0_0; clear BK245; clear HB; have HO0_0 := n0_; have BK245 := n1_; have HB := n2_; have BK246 := n3_; have GW246 := n4_; have GE246 := n5_; have NB245_246 := n6_; have NB246_245 := n7_; clear n0_ n1_ n2_ n3_ n4_ n5_ n6_ n7_; clear hb hbox hg; have hnb29 := NB245_246.out; have hnc29 := NB246_245.out; have hcz30_0 : w28.cell? ⟨gb245, 0, none⟩ = some (.slice A0_0 l0_0.length c0_0) := bcx_ BK245.out 0; have hcz30_1 : w28.cell? ⟨gb245, 1, none⟩ = some (.int .i64 a0_1) := bcx_ BK245.out 1; have hfz30_0 := blk_frozen BK245.out 0; have hfz30_1 := blk_frozen BK245.out 1) | ((with_reducible refine gate_callee (f := 17) rfl ?_); refine goesL_ (some 7) rfl rfl Try.func17 (by kernel_rfl) rfl #[.agg #[.slice A0_0 l0_0.length c0_0, .int .i64 a0_1]] rfl (by (try simp only [List.map_toArray, List.map_cons, List.map_nil]); first | done | rfl | (simp only [List.length_drop, List.length_take]; rfl)) ?_; (with_reducible refine (trefoilref18_Check.calls k _ _ l0_0 a0_1 false _ ?side1 ?side2 A3.out).mono ?_); (case side1 => repeat (first | exact (Kd.V_reads' HO0_0.out).2.2 | (with_reducible refine Kd.C_alloc ?_ _) | (with_reducible refine Kd.C_drewN ?_ _) | (with_reducible refine Kd.C_drew ?_))); (case side2 => exact (Kd.V_reads' HO0_0.out).2.1); rintro e w31 ⟨rfl, hb⟩; refine ⟨_, rfl, ?_⟩; have n0_ := Aside0.mk (Kd.V_below (kV_ HO0_0.out) hb); have n1_ := Aside0.mk (blk_below (bk_ BK245.out) hb); have n2_ := Aside0.mk (blk_below (bk_ BK246.out) hb); have n3_ := Aside0.mk (below_step bx_ hb); clear HO0_0; clear BK245; clear BK246; clear HB; have HO0_0 := n0_; have BK245 := n1_; have BK246 := n2_; have HB := n3_; clear n0_ n1_ n2_ n3_; (try clear hb); (try clear hb2); (try clear hk); (try clear hi); have hcz32_0 : w31.cell? ⟨gb246, 0, none⟩ = some (.slice none 0 0) := bcx_ BK246.out 0; have hcz32_1 : w31.cell? ⟨gb246, 1, none⟩ = some (.int .i64 0) := bcx_ BK246.out 1; have hfz32_0 := blk_frozen BK246.out 0; have hfz32_1 := blk_frozen BK246.out 1))
  refine bodyPost_ret (results_ct rfl _ _ gb246 24 #[.slice none 0 0, .int .i64 0] (0, 0) _ rfl (by (with_reducible repeat (first | refine blk_drewN ?_ _ | refine blk_drew ?_ | refine blk_alloc ?_ _)); refine blk_put (cs := #[.slice none 0 0, .int .i64 0]) ?_ 1 _ rfl; (with_reducible repeat (first | refine blk_drewN ?_ _ | refine blk_drew ?_ | refine blk_alloc ?_ _)); refine blk_put (cs := #[.slice none 0 0, .int .i64 0]) ?_ 0 _ rfl; (with_reducible repeat (first | refine blk_drewN ?_ _ | refine blk_drew ?_ | refine blk_alloc ?_ _)); exact BK246.out) Try.underlying24 rfl (by kernel_rfl)) rfl ?_
  exact ⟨_, by first | rfl | (simp [errW_none, errW_some] <;> rfl) | (simp [*, errW_none, errW_some] <;> rfl), by first | exact Kd.S_nil _ _ _ _ _ | exact Kd.N_nil _ _ _ _ _ | exact Kd.V_nil _ _ _ _ _ | exact Kd.Q_nil _ _ _ _ _ | exact Kd.R_nil _ _ _ _ _, bx_⟩
/-! ### trefoilref18_Next: function 18 -/
def trefoilref18_Next.l0 : Nat → Int → Int → List (S27) → Int → Option (Int)
 | 0, _, _, _, _ => none
 | k + 1, x3, x4, x254000, x254001 => if x4 < (x254000.length : Int) then (if x3 < 0 then (trefoilref18_Next.l0 k x4 (wrap64 (x4 + 1)) x254000 x254001) else (if 0 ≤ x4 then (if 0 ≤ x3 then (if x3 < (x254000.length : Int) then (if ((rd_T27 x254000 x4).f1) < ((rd_T27 x254000 x3).f1) then (trefoilref18_Next.l0 k x4 (wrap64 (x4 + 1)) x254000 x254001) else (trefoilref18_Next.l0 k x3 (wrap64 (x4 + 1)) x254000 x254001)) else (none)) else (none)) else (none))) else (if x3 < 0 then (some (-1)) else (if 0 ≤ x3 then (if x3 < (x254000.length : Int) then (some ((rd_T27 x254000 x3).f0)) else (none)) else (none)))
def trefoilref18_Next.f (k : Nat) (l0_0 : List (S27)) (a0_1 : Int) : Option (Int) := if a0_1 ≥ 0 then (some a0_1) else (trefoilref18_Next.l0 k (-1) 0 l0_0 a0_1)
theorem trefoilref18_Next.mono_l : ∀ k, (∀ y0 y1 y2 y3, LeO (trefoilref18_Next.l0 k y0 y1 y2 y3) (trefoilref18_Next.l0 (k + 1) y0 y1 y2 y3))
 | 0 => fun _ _ _ _ r h => by simp [trefoilref18_Next.l0] at h
 | k + 1 => by
  have ih0 := trefoilref18_Next.mono_l k
  ·
   intro y0 y1 y2 y3
   unfold trefoilref18_Next.l0
   repeat' first
   | (with_reducible exact ih0 _ _ _ _)
   | (with_reducible exact LeO.refl _)
   | (with_reducible exact LeO.none _)
   | (with_reducible refine LeO.ite ?_ ?_)
   | (with_reducible refine LeO.bind ?_ (fun _ => ?_))
   | exact ih0 _ _ _ _
   | exact LeO.none _
   | refine LeO.ite ?_ ?_
   | refine LeO.bind ?_ (fun _ => ?_)
theorem trefoilref18_Next.mono : ∀ a0 a1 k, LeO (trefoilref18_Next.f k a0 a1) (trefoilref18_Next.f (k + 1) a0 a1) := by
 intro a0 a1 k
 have ih0 := trefoilref18_Next.mono_l k
 unfold trefoilref18_Next.f
 repeat' first
  | (with_reducible exact ih0 _ _ _ _)
  | (with_reducible exact LeO.refl _)
  | (with_reducible exact LeO.none _)
  | (with_reducible refine LeO.ite ?_ ?_)
  | (with_reducible refine LeO.bind ?_ (fun _ => ?_))
  | exact ih0 _ _ _ _
  | exact LeO.none _
  | refine LeO.ite ?_ ?_
  | refine LeO.bind ?_ (fun _ => ?_)
set_option maxHeartbeats 8000000 in
set_option maxRecDepth 100000 in
theorem trefoilref18_Next.calls (k : Nat) (A0_0 : Option Addr) (c0_0 : Nat) (l0_0 : List (S27)) (a0_1 : Int) (r : Int) (w : World) (hr0_0 : Kd.C k27 w A0_0 l0_0.length l0_0) (hc0_0 : l0_0.length ≤ c0_0) (h : trefoilref18_Next.f k l0_0 a0_1 = some r) :
 Calls Try.prog 18 #[.agg #[.slice A0_0 l0_0.length c0_0, .int .i64 a0_1]] w fun e w' => e = .returned (.int .i64 r) ∧ Below w.heap.size w w' := by
 have hu24 := Try.underlying24
 have HR0_0 := Aside0.mk hr0_0
 have HC0_0 := Aside0.mk hc0_0
 clear hr0_0 hc0_0
 have HB := Aside0.mk (Below.refl w.heap.size w)
 have H : (if a0_1 ≥ 0 then (some a0_1) else (trefoilref18_Next.l0 k (-1) 0 l0_0 a0_1)) = some r := h
 clear h
 by_cases c2 : a0_1 ≥ 0
 ·
  rw [if_pos c2] at H
  have c2b0 : decide (0 ≤ a0_1) = true := decide_eq_true c2
  clear c2
  obtain rfl := Option.some.inj H
  go_enter Try.func18, Try.ntmps18
  go_wp2_with (first | ((with_reducible refine gate_dst (N := 1) rfl ?_); refine box_event ?hg (N := 1) ?hd (cs := #[.slice A0_0 l0_0.length c0_0, .int .i64 a0_1]) (t := 24) ?hr ?_; (case hd => rfl); (case hg => rfl); (case hr => first | (go_simp; done) | (go_simp; rfl)); intro gb253 hg w3 hbox hb; have n0_ := Aside0.mk (below_step bw_ hb); have n1_ := Aside0.mk (hbox); have n2_ := Aside0.mk ((by rw [hg]; exact (below_size bw_) : w.heap.size ≤ gb253)); have n3_ := Aside0.mk ((by rw [hg]; exact (below_size bw_) : w.heap.size ≤ gb253)); clear HB; have HB := n0_; have BK253 := n1_; have GW253 := n2_; have GE253 := n3_; clear n0_ n1_ n2_ n3_; clear hb hbox hg; have hcz4_0 : w3.cell? ⟨gb253, 0, none⟩ = some (.slice A0_0 l0_0.length c0_0) := bcx_ BK253.out 0; have hcz4_1 : w3.cell? ⟨gb253, 1, none⟩ = some (.int .i64 a0_1) := bcx_ BK253.out 1; have hfz4_0 := blk_frozen BK253.out 0; have hfz4_1 := blk_frozen BK253.out 1))
  repeat (go_quiet (first | ((with_reducible refine gate_dst (N := 1) rfl ?_); refine box_event ?hg (N := 1) ?hd (cs := #[.slice A0_0 l0_0.length c0_0, .int .i64 a0_1]) (t := 24) ?hr ?_; (case hd => rfl); (case hg => rfl); (case hr => first | (go_simp; done) | (go_simp; rfl)); intro gb253 hg w3 hbox hb; have n0_ := Aside0.mk (below_step bw_ hb); have n1_ := Aside0.mk (hbox); have n2_ := Aside0.mk ((by rw [hg]; exact (below_size bw_) : w.heap.size ≤ gb253)); have n3_ := Aside0.mk ((by rw [hg]; exact (below_size bw_) : w.heap.size ≤ gb253)); clear HB; have HB := n0_; have BK253 := n1_; have GW253 := n2_; have GE253 := n3_; clear n0_ n1_ n2_ n3_; clear hb hbox hg; have hcz4_0 : w3.cell? ⟨gb253, 0, none⟩ = some (.slice A0_0 l0_0.length c0_0) := bcx_ BK253.out 0; have hcz4_1 : w3.cell? ⟨gb253, 1, none⟩ = some (.int .i64 a0_1) := bcx_ BK253.out 1; have hfz4_0 := blk_frozen BK253.out 0; have hfz4_1 := blk_frozen BK253.out 1)); try go_wp2_with (first | ((with_reducible refine gate_dst (N := 1) rfl ?_); refine box_event ?hg (N := 1) ?hd (cs := #[.slice A0_0 l0_0.length c0_0, .int .i64 a0_1]) (t := 24) ?hr ?_; (case hd => rfl); (case hg => rfl); (case hr => first | (go_simp; done) | (go_simp; rfl)); intro gb253 hg w3 hbox hb; have n0_ := Aside0.mk (below_step bw_ hb); have n1_ := Aside0.mk (hbox); have n2_ := Aside0.mk ((by rw [hg]; exact (below_size bw_) : w.heap.size ≤ gb253)); have n3_ := Aside0.mk ((by rw [hg]; exact (below_size bw_) : w.heap.size ≤ gb253)); clear HB; have HB := n0_; have BK253 := n1_; have GW253 := n2_; have GE253 := n3_; clear n0_ n1_ n2_ n3_; clear hb hbox hg; have hcz4_0 : w3.cell? ⟨gb253, 0, none⟩ = some (.slice A0_0 l0_0.length c0_0) := bcx_ BK253.out 0; have hcz4_1 : w3.cell? ⟨gb253, 1, none⟩ = some (.int .i64 a0_1) := bcx_ BK253.out 1; have hfz4_0 := blk_frozen BK253.out 0; have hfz4_1 := blk_frozen BK253.out 1)))
  go_ret
  exact ⟨by first | rfl | (simp [errW_none, errW_some] <;> rfl) | (simp [*, errW_none, errW_some] <;> rfl), bx_⟩
 ·
  rw [if_neg c2] at H
  have c2b0 : decide (0 ≤ a0_1) = false := decide_eq_false c2
  clear c2
  have H' := Aside0.mk H
  clear H
  go_enter Try.func18, Try.ntmps18
  go_wp2_with (first | ((with_reducible refine gate_dst (N := 1) rfl ?_); refine box_event ?hg (N := 1) ?hd (cs := #[.slice A0_0 l0_0.length c0_0, .int .i64 a0_1]) (t := 24) ?hr ?_; (case hd => rfl); (case hg => rfl); (case hr => first | (go_simp; done) | (go_simp; rfl)); intro gb253 hg w5 hbox hb; have n0_ := Aside0.mk (below_step bw_ hb); have n1_ := Aside0.mk (hbox); have n2_ := Aside0.mk ((by rw [hg]; exact (below_size bw_) : w.heap.size ≤ gb253)); have n3_ := Aside0.mk ((by rw [hg]; exact (below_size bw_) : w.heap.size ≤ gb253)); clear HB; have HB := n0_; have BK253 := n1_; have GW253 := n2_; have GE253 := n3_; clear n0_ n1_ n2_ n3_; clear hb hbox hg; have hcz6_0 : w5.cell? ⟨gb253, 0, none⟩ = some (.slice A0_0 l0_0.length c0_0) := bcx_ BK253.out 0; have hcz6_1 : w5.cell? ⟨gb253, 1, none⟩ = some (.int .i64 a0_1) := bcx_ BK253.out 1; have hfz6_0 := blk_frozen BK253.out 0; have hfz6_1 := blk_frozen BK253.out 1))
  repeat (go_quiet (first | ((with_reducible refine gate_dst (N := 1) rfl ?_); refine box_event ?hg (N := 1) ?hd (cs := #[.slice A0_0 l0_0.length c0_0, .int .i64 a0_1]) (t := 24) ?hr ?_; (case hd => rfl); (case hg => rfl); (case hr => first | (go_simp; done) | (go_simp; rfl)); intro gb253 hg w5 hbox hb; have n0_ := Aside0.mk (below_step bw_ hb); have n1_ := Aside0.mk (hbox); have n2_ := Aside0.mk ((by rw [hg]; exact (below_size bw_) : w.heap.size ≤ gb253)); have n3_ := Aside0.mk ((by rw [hg]; exact (below_size bw_) : w.heap.size ≤ gb253)); clear HB; have HB := n0_; have BK253 := n1_; have GW253 := n2_; have GE253 := n3_; clear n0_ n1_ n2_ n3_; clear hb hbox hg; have hcz6_0 : w5.cell? ⟨gb253, 0, none⟩ = some (.slice A0_0 l0_0.length c0_0) := bcx_ BK253.out 0; have hcz6_1 : w5.cell? ⟨gb253, 1, none⟩ = some (.int .i64 a0_1) := bcx_ BK253.out 1; have hfz6_0 := blk_frozen BK253.out 0; have hfz6_1 := blk_frozen BK253.out 1)); try go_wp2_with (first | ((with_reducible refine gate_dst (N := 1) rfl ?_); refine box_event ?hg (N := 1) ?hd (cs := #[.slice A0_0 l0_0.length c0_0, .int .i64 a0_1]) (t := 24) ?hr ?_; (case hd => rfl); (case hg => rfl); (case hr => first | (go_simp; done) | (go_simp; rfl)); intro gb253 hg w5 hbox hb; have n0_ := Aside0.mk (below_step bw_ hb); have n1_ := Aside0.mk (hbox); have n2_ := Aside0.mk ((by rw [hg]; exact (below_size bw_) : w.heap.size ≤ gb253)); have n3_ := Aside0.mk ((by rw [hg]; exact (below_size bw_) : w.heap.size ≤ gb253)); clear HB; have HB := n0_; have BK253 := n1_; have GW253 := n2_; have GE253 := n3_; clear n0_ n1_ n2_ n3_; clear hb hbox hg; have hcz6_0 : w5.cell? ⟨gb253, 0, none⟩ = some (.slice A0_0 l0_0.length c0_0) := bcx_ BK253.out 0; have hcz6_1 : w5.cell? ⟨gb253, 1, none⟩ = some (.int .i64 a0_1) := bcx_ BK253.out 1; have hfz6_0 := blk_frozen BK253.out 0; have hfz6_1 := blk_frozen BK253.out 1)))
  go_loopg [3, 4] k (fun kq v3 v4 w' => ∃ (x3_1 : Int) (x4_1 : Int), v3 = .int .i64 x3_1 ∧ v4 = .int .i64 x4_1 ∧ Aside0 (trefoilref18_Next.l0 kq x3_1 x4_1 l0_0 a0_1 = some r) ∧ Aside0 (kq ≤ k) ∧ Aside0 (w'.heap[gb253]? = some (.cells #[(.slice A0_0 l0_0.length c0_0), .int .i64 a0_1] 24 (0, 0))) ∧ Aside0 (Below w.heap.size w w'))
  case atStart => exact ⟨((-1)), (0), (by first | rfl | (simp; done) | (simp [*]; done)), (by first | rfl | (simp; done) | (simp [*]; done)), H', ⟨Nat.le_refl _⟩, ⟨by (with_reducible repeat (first | refine blk_drewN ?_ _ | refine blk_drew ?_ | refine blk_alloc ?_ _)); exact BK253.out⟩, ⟨bx_⟩⟩
  case round =>
   clear H'
   try clear c1
   try clear c2
   try clear c2b0
   try clear p2
   try clear hcz4_0
   try clear hcz4_1
   try clear hcz6_0
   try clear hcz6_1
   try clear hfz4_0
   try clear hfz4_1
   try clear hfz6_0
   try clear hfz6_1
   obtain ⟨x3_1, x4_1, rfl, rfl, HA, HK1, BK253, HB⟩ := hrel
   cases gk with
   | zero => exact absurd HA.out (by simp [trefoilref18_Next.l0])
   | succ k1 =>
    have H := HA.out
    clear HA
    simp only [trefoilref18_Next.l0] at H
    by_cases c7 : x4_1 < (l0_0.length : Int)
    ·
     rw [if_pos c7] at H
     have c7b0 : decide (x4_1 < (l0_0.length : Int)) = true := decide_eq_true c7
     clear c7
     by_cases c8 : x3_1 < 0
     ·
      rw [if_pos c8] at H
      have c8b0 : decide (x3_1 < 0) = true := decide_eq_true c8
      clear c8
      have H' := Aside0.mk H
      clear H
      have hcz9_0 : wr.cell? ⟨gb253, 0, none⟩ = some (.slice A0_0 l0_0.length c0_0) := bcx_ BK253.out 0
      have hcz9_1 : wr.cell? ⟨gb253, 1, none⟩ = some (.int .i64 a0_1) := bcx_ BK253.out 1
      have hfz9_0 := blk_frozen BK253.out 0
      have hfz9_1 := blk_frozen BK253.out 1
      go_wp2
      repeat (go_quiet (fail); try go_wp2)
      go_roundg k1
      case measure => have := HK1.out; omega
      case rel => exact ⟨(x4_1), (wrap64 (x4_1 + 1)), (by first | rfl | (simp; done) | (simp [*]; done)), (by first | rfl | (simp; done) | (simp [*]; done)), H', ⟨by have := HK1.out; omega⟩, ⟨by (with_reducible repeat (first | refine blk_drewN ?_ _ | refine blk_drew ?_ | refine blk_alloc ?_ _)); exact BK253.out⟩, ⟨bx_⟩⟩
     ·
      rw [if_neg c8] at H
      have c8b0 : decide (x3_1 < 0) = false := decide_eq_false c8
      clear c8
      by_cases c10 : 0 ≤ x4_1
      ·
       rw [if_pos c10] at H
       have c10b0 : decide (0 ≤ x4_1) = true := decide_eq_true c10
       clear c10
       by_cases c11 : 0 ≤ x3_1
       ·
        rw [if_pos c11] at H
        have c11b0 : decide (0 ≤ x3_1) = true := decide_eq_true c11
        clear c11
        by_cases c12 : x3_1 < (l0_0.length : Int)
        ·
         rw [if_pos c12] at H
         have c12b0 : decide (x3_1 < (l0_0.length : Int)) = true := decide_eq_true c12
         clear c12
         by_cases c13 : ((rd_T27 l0_0 x4_1).f1) < ((rd_T27 l0_0 x3_1).f1)
         ·
          rw [if_pos c13] at H
          have c13b0 : decide (((rd_T27 l0_0 x4_1).f1) < ((rd_T27 l0_0 x3_1).f1)) = true := decide_eq_true c13
          clear c13
          have H' := Aside0.mk H
          clear H
          have hcz14_0 : wr.cell? ⟨gb253, 0, none⟩ = some (.slice A0_0 l0_0.length c0_0) := bcx_ BK253.out 0
          have hcz14_1 : wr.cell? ⟨gb253, 1, none⟩ = some (.int .i64 a0_1) := bcx_ BK253.out 1
          have hfz14_0 := blk_frozen BK253.out 0
          have hfz14_1 := blk_frozen BK253.out 1
          have p254 : 0 ≤ (x4_1 : Int) := of_decide_eq_true (by first | (with_reducible assumption) | assumption)
          have q254 : x4_1 < (l0_0.length : Int) := of_decide_eq_true (by first | (with_reducible assumption) | assumption)
          obtain ⟨ad254, A254_2, c254_2, e254, hx254_0, hx254_1, hx254_2, hl254_2, hi254_2⟩ := at_T27 HR0_0.out x4_1 p254 q254
          cases e254
          replace hx254_0 := (HB.out.cell (World.block_lt_of_cell? w _ hx254_0)).trans hx254_0
          replace hx254_1 := (HB.out.cell (World.block_lt_of_cell? w _ hx254_1)).trans hx254_1
          replace hx254_2 := (HB.out.cell (World.block_lt_of_cell? w _ hx254_2)).trans hx254_2
          have HR254_2 := Aside0.mk hi254_2
          have HC254_2 := Aside0.mk hl254_2
          clear hi254_2 hl254_2
          replace p254 := eq_true p254
          replace q254 := eq_true q254
          have p255 : 0 ≤ (x3_1 : Int) := of_decide_eq_true (by first | (with_reducible assumption) | assumption)
          have q255 : x3_1 < (l0_0.length : Int) := of_decide_eq_true (by first | (with_reducible assumption) | assumption)
          obtain ⟨ad255, A255_2, c255_2, e255, hx255_0, hx255_1, hx255_2, hl255_2, hi255_2⟩ := at_T27 HR0_0.out x3_1 p255 q255
          obtain rfl : ad254 = ad255 := (by injection e255)
          replace hx255_0 := (HB.out.cell (World.block_lt_of_cell? w _ hx255_0)).trans hx255_0
          replace hx255_1 := (HB.out.cell (World.block_lt_of_cell? w _ hx255_1)).trans hx255_1
          replace hx255_2 := (HB.out.cell (World.block_lt_of_cell? w _ hx255_2)).trans hx255_2
          have HR255_2 := Aside0.mk hi255_2
          have HC255_2 := Aside0.mk hl255_2
          clear hi255_2 hl255_2
          replace p255 := eq_true p255
          replace q255 := eq_true q255
          go_wp2
          repeat (go_quiet (fail); try go_wp2)
          go_roundg k1
          case measure => have := HK1.out; omega
          case rel => exact ⟨(x4_1), (wrap64 (x4_1 + 1)), (by first | rfl | (simp; done) | (simp [*]; done)), (by first | rfl | (simp; done) | (simp [*]; done)), H', ⟨by have := HK1.out; omega⟩, ⟨by (with_reducible repeat (first | refine blk_drewN ?_ _ | refine blk_drew ?_ | refine blk_alloc ?_ _)); exact BK253.out⟩, ⟨bx_⟩⟩
         ·
          rw [if_neg c13] at H
          have c13b0 : decide (((rd_T27 l0_0 x4_1).f1) < ((rd_T27 l0_0 x3_1).f1)) = false := decide_eq_false c13
          clear c13
          have H' := Aside0.mk H
          clear H
          have hcz15_0 : wr.cell? ⟨gb253, 0, none⟩ = some (.slice A0_0 l0_0.length c0_0) := bcx_ BK253.out 0
          have hcz15_1 : wr.cell? ⟨gb253, 1, none⟩ = some (.int .i64 a0_1) := bcx_ BK253.out 1
          have hfz15_0 := blk_frozen BK253.out 0
          have hfz15_1 := blk_frozen BK253.out 1
          have p254 : 0 ≤ (x4_1 : Int) := of_decide_eq_true (by first | (with_reducible assumption) | assumption)
          have q254 : x4_1 < (l0_0.length : Int) := of_decide_eq_true (by first | (with_reducible assumption) | assumption)
          obtain ⟨ad254, A254_2, c254_2, e254, hx254_0, hx254_1, hx254_2, hl254_2, hi254_2⟩ := at_T27 HR0_0.out x4_1 p254 q254
          cases e254
          replace hx254_0 := (HB.out.cell (World.block_lt_of_cell? w _ hx254_0)).trans hx254_0
          replace hx254_1 := (HB.out.cell (World.block_lt_of_cell? w _ hx254_1)).trans hx254_1
          replace hx254_2 := (HB.out.cell (World.block_lt_of_cell? w _ hx254_2)).trans hx254_2
          have HR254_2 := Aside0.mk hi254_2
          have HC254_2 := Aside0.mk hl254_2
          clear hi254_2 hl254_2
          replace p254 := eq_true p254
          replace q254 := eq_true q254
          have p255 : 0 ≤ (x3_1 : Int) := of_decide_eq_true (by first | (with_reducible assumption) | assumption)
          have q255 : x3_1 < (l0_0.length : Int) := of_decide_eq_true (by first | (with_reducible assumption) | assumption)
          obtain ⟨ad255, A255_2, c255_2, e255, hx255_0, hx255_1, hx255_2, hl255_2, hi255_2⟩ := at_T27 HR0_0.out x3_1 p255 q255
          obtain rfl : ad254 = ad255 := (by injection e255)
          replace hx255_0 := (HB.out.cell (World.block_lt_of_cell? w _ hx255_0)).trans hx255_0
          replace hx255_1 := (HB.out.cell (World.block_lt_of_cell? w _ hx255_1)).trans hx255_1
          replace hx255_2 := (HB.out.cell (World.block_lt_of_cell? w _ hx255_2)).trans hx255_2
          have HR255_2 := Aside0.mk hi255_2
          have HC255_2 := Aside0.mk hl255_2
          clear hi255_2 hl255_2
          replace p255 := eq_true p255
          replace q255 := eq_true q255
          go_wp2
          repeat (go_quiet (fail); try go_wp2)
          go_roundg k1
          case measure => have := HK1.out; omega
          case rel => exact ⟨(x3_1), (wrap64 (x4_1 + 1)), (by first | rfl | (simp; done) | (simp [*]; done)), (by first | rfl | (simp; done) | (simp [*]; done)), H', ⟨by have := HK1.out; omega⟩, ⟨by (with_reducible repeat (first | refine blk_drewN ?_ _ | refine blk_drew ?_ | refine blk_alloc ?_ _)); exact BK253.out⟩, ⟨bx_⟩⟩
        ·
         rw [if_neg c12] at H
         exact absurd H (by simp)
       ·
        rw [if_neg c11] at H
        exact absurd H (by simp)
      ·
       rw [if_neg c10] at H
       exact absurd H (by simp)
    ·
     rw [if_neg c7] at H
     have c7b0 : decide (x4_1 < (l0_0.length : Int)) = false := decide_eq_false c7
     clear c7
     by_cases c16 : x3_1 < 0
     ·
      rw [if_pos c16] at H
      have c16b0 : decide (x3_1 < 0) = true := decide_eq_true c16
      clear c16
      obtain rfl := Option.some.inj H
      have hcz17_0 : wr.cell? ⟨gb253, 0, none⟩ = some (.slice A0_0 l0_0.length c0_0) := bcx_ BK253.out 0
      have hcz17_1 : wr.cell? ⟨gb253, 1, none⟩ = some (.int .i64 a0_1) := bcx_ BK253.out 1
      have hfz17_0 := blk_frozen BK253.out 0
      have hfz17_1 := blk_frozen BK253.out 1
      go_wp2
      repeat (go_quiet (fail); try go_wp2)
      go_ret
      exact ⟨by first | rfl | (simp [errW_none, errW_some] <;> rfl) | (simp [*, errW_none, errW_some] <;> rfl), bx_⟩
     ·
      rw [if_neg c16] at H
      have c16b0 : decide (x3_1 < 0) = false := decide_eq_false c16
      clear c16
      by_cases c18 : 0 ≤ x3_1
      ·
       rw [if_pos c18] at H
       have c18b0 : decide (0 ≤ x3_1) = true := decide_eq_true c18
       clear c18
       by_cases c19 : x3_1 < (l0_0.length : Int)
       ·
        rw [if_pos c19] at H
        have c19b0 : decide (x3_1 < (l0_0.length : Int)) = true := decide_eq_true c19
        clear c19
        obtain rfl := Option.some.inj H
        have hcz20_0 : wr.cell? ⟨gb253, 0, none⟩ = some (.slice A0_0 l0_0.length c0_0) := bcx_ BK253.out 0
        have hcz20_1 : wr.cell? ⟨gb253, 1, none⟩ = some (.int .i64 a0_1) := bcx_ BK253.out 1
        have hfz20_0 := blk_frozen BK253.out 0
        have hfz20_1 := blk_frozen BK253.out 1
        have p256 : 0 ≤ (x3_1 : Int) := of_decide_eq_true (by first | (with_reducible assumption) | assumption)
        have q256 : x3_1 < (l0_0.length : Int) := of_decide_eq_true (by first | (with_reducible assumption) | assumption)
        obtain ⟨ad256, A256_2, c256_2, e256, hx256_0, hx256_1, hx256_2, hl256_2, hi256_2⟩ := at_T27 HR0_0.out x3_1 p256 q256
        cases e256
        replace hx256_0 := (HB.out.cell (World.block_lt_of_cell? w _ hx256_0)).trans hx256_0
        replace hx256_1 := (HB.out.cell (World.block_lt_of_cell? w _ hx256_1)).trans hx256_1
        replace hx256_2 := (HB.out.cell (World.block_lt_of_cell? w _ hx256_2)).trans hx256_2
        have HR256_2 := Aside0.mk hi256_2
        have HC256_2 := Aside0.mk hl256_2
        clear hi256_2 hl256_2
        replace p256 := eq_true p256
        replace q256 := eq_true q256
        go_wp2
        repeat (go_quiet (fail); try go_wp2)
        go_ret
        exact ⟨by first | rfl | (simp [errW_none, errW_some] <;> rfl) | (simp [*, errW_none, errW_some] <;> rfl), bx_⟩
       ·
        rw [if_neg c19] at H
        exact absurd H (by simp)
      ·
       rw [if_neg c18] at H
       exact absurd H (by simp)
end Go.Proofs.Yteodhffgnkdcfaa.Q
