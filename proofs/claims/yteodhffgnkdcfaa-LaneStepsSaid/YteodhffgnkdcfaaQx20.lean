import Derived.Test.YteodhffgnkdcfaaShort
import Derived.Test.YteodhffgnkdcfaaQx0
import Derived.Test.YteodhffgnkdcfaaQx18
import Derived.Test.YteodhffgnkdcfaaQx19
namespace Go.Proofs.Yteodhffgnkdcfaa.Q
open Go.RowKit Go.Proofs.YteodhffgnkdcfaaW.PrintWords Go.Proofs.YteodhffgnkdcfaaW.PrintLast Go.Proofs.YteodhffgnkdcfaaW.PrintMore
attribute [local go_sem] max2_int min2_int max_two min_two max_three min_three max_four min_four
set_option linter.unusedVariables false
set_option linter.unusedSimpArgs false
/-! ### trefoilref18_Add: function 12 -/
mutual
def trefoilref18_Add.j0 : Nat → Bool → List (S27) → Int → Int → Int → List Int → Option ((List (S27)) × Int × Int)
 | 0, _, _, _, _, _, _ => none
 | k + 1, x16, x223000, x223001, x224000, x224001, x224002 => if x16 = true then (some (([] : List (S27)), 0, 180)) else ((trefoilref18_Has.f k x223000 x223001 x224000).bind fun t227 => (if t227 = true then (some (([] : List (S27)), 0, 181)) else (trefoilref18_Add.l0 k 0 x223000 x223001 x224000 x224001 x224002 ([] : List (S27)) x223001)))
def trefoilref18_Add.l0 : Nat → Int → List (S27) → Int → Int → Int → List Int → List (S27) → Int → Option ((List (S27)) × Int × Int)
 | 0, _, _, _, _, _, _, _, _ => none
 | k + 1, x7, x223000, x223001, x224000, x224001, x224002, x229000, x229001 => if x7 < 8 then (trefoilref18_Add.l1 k x7 0 x223000 x223001 x224000 x224001 x224002 x229000 x229001) else (some (x229000, x229001, 0))
def trefoilref18_Add.l1 : Nat → Int → Int → List (S27) → Int → Int → Int → List Int → List (S27) → Int → Option ((List (S27)) × Int × Int)
 | 0, _, _, _, _, _, _, _, _, _ => none
 | k + 1, x7, x8, x223000, x223001, x224000, x224001, x224002, x229000, x229001 => if x8 < (x223000.length : Int) then (if 0 ≤ x8 then (if ((rd_T27 x223000 x8).f0) = x7 then (if x229000.length < 3518437208883 then (trefoilref18_Add.l1 k x7 (wrap64 (x8 + 1)) x223000 x223001 x224000 x224001 x224002 (x229000 ++ [(⟨(rd_T27 x223000 x8).f0, (rd_T27 x223000 x8).f1, (rd_T27 x223000 x8).f2⟩ : S27)]) x229001) else (none)) else (trefoilref18_Add.l1 k x7 (wrap64 (x8 + 1)) x223000 x223001 x224000 x224001 x224002 x229000 x229001)) else (none)) else (if x224000 = x7 then (if x229000.length < 3518437208883 then (trefoilref18_Add.l0 k (wrap64 (x7 + 1)) x223000 x223001 x224000 x224001 x224002 (x229000 ++ [(⟨x224000, x224001, x224002⟩ : S27)]) x229001) else (none)) else (trefoilref18_Add.l0 k (wrap64 (x7 + 1)) x223000 x223001 x224000 x224001 x224002 x229000 x229001))
end
def trefoilref18_Add.f (k : Nat) (l0_0 : List (S27)) (a0_1 : Int) (a1_0 : Int) (a1_1 : Int) (l1_2 : List Int) : Option ((List (S27)) × Int × Int) := (trefoilref18_Check.f k l0_0 a0_1).bind fun t225 => (if t225 = true then ((trefoilref18_Job.f k a1_0 a1_1 l1_2).bind fun t226 => (trefoilref18_Add.j0 k (!t226) l0_0 a0_1 a1_0 a1_1 l1_2)) else (trefoilref18_Add.j0 k true l0_0 a0_1 a1_0 a1_1 l1_2))
theorem trefoilref18_Add.mono_l : ∀ k, (∀ y0 y1 y2 y3 y4 y5, LeO (trefoilref18_Add.j0 k y0 y1 y2 y3 y4 y5) (trefoilref18_Add.j0 (k + 1) y0 y1 y2 y3 y4 y5)) ∧ (∀ y0 y1 y2 y3 y4 y5 y6 y7, LeO (trefoilref18_Add.l0 k y0 y1 y2 y3 y4 y5 y6 y7) (trefoilref18_Add.l0 (k + 1) y0 y1 y2 y3 y4 y5 y6 y7)) ∧ (∀ y0 y1 y2 y3 y4 y5 y6 y7 y8, LeO (trefoilref18_Add.l1 k y0 y1 y2 y3 y4 y5 y6 y7 y8) (trefoilref18_Add.l1 (k + 1) y0 y1 y2 y3 y4 y5 y6 y7 y8))
 | 0 => ⟨fun _ _ _ _ _ _ r h => by simp [trefoilref18_Add.j0] at h, fun _ _ _ _ _ _ _ _ r h => by simp [trefoilref18_Add.l0] at h, fun _ _ _ _ _ _ _ _ _ r h => by simp [trefoilref18_Add.l1] at h⟩
 | k + 1 => by
  obtain ⟨ih0, ih1, ih2⟩ := trefoilref18_Add.mono_l k
  refine ⟨?_, ?_, ?_⟩
  ·
   intro y0 y1 y2 y3 y4 y5
   unfold trefoilref18_Add.j0
   repeat' first
   | (with_reducible exact ih0 _ _ _ _ _ _)
   | (with_reducible exact ih1 _ _ _ _ _ _ _ _)
   | (with_reducible exact ih2 _ _ _ _ _ _ _ _ _)
   | (with_reducible exact trefoilref18_Check.mono _ _ _)
   | (with_reducible exact trefoilref18_Has.mono _ _ _ _)
   | (with_reducible exact trefoilref18_Job.mono _ _ _ _)
   | (with_reducible exact LeO.refl _)
   | (with_reducible exact LeO.none _)
   | (with_reducible refine LeO.ite ?_ ?_)
   | (with_reducible refine LeO.bind ?_ (fun _ => ?_))
   | exact ih0 _ _ _ _ _ _
   | exact ih1 _ _ _ _ _ _ _ _
   | exact ih2 _ _ _ _ _ _ _ _ _
   | exact trefoilref18_Check.mono _ _ _
   | exact trefoilref18_Has.mono _ _ _ _
   | exact trefoilref18_Job.mono _ _ _ _
   | exact LeO.none _
   | refine LeO.ite ?_ ?_
   | refine LeO.bind ?_ (fun _ => ?_)
  ·
   intro y0 y1 y2 y3 y4 y5 y6 y7
   unfold trefoilref18_Add.l0
   repeat' first
   | (with_reducible exact ih0 _ _ _ _ _ _)
   | (with_reducible exact ih1 _ _ _ _ _ _ _ _)
   | (with_reducible exact ih2 _ _ _ _ _ _ _ _ _)
   | (with_reducible exact trefoilref18_Check.mono _ _ _)
   | (with_reducible exact trefoilref18_Has.mono _ _ _ _)
   | (with_reducible exact trefoilref18_Job.mono _ _ _ _)
   | (with_reducible exact LeO.refl _)
   | (with_reducible exact LeO.none _)
   | (with_reducible refine LeO.ite ?_ ?_)
   | (with_reducible refine LeO.bind ?_ (fun _ => ?_))
   | exact ih0 _ _ _ _ _ _
   | exact ih1 _ _ _ _ _ _ _ _
   | exact ih2 _ _ _ _ _ _ _ _ _
   | exact trefoilref18_Check.mono _ _ _
   | exact trefoilref18_Has.mono _ _ _ _
   | exact trefoilref18_Job.mono _ _ _ _
   | exact LeO.none _
   | refine LeO.ite ?_ ?_
   | refine LeO.bind ?_ (fun _ => ?_)
  ·
   intro y0 y1 y2 y3 y4 y5 y6 y7 y8
   unfold trefoilref18_Add.l1
   repeat' first
   | (with_reducible exact ih0 _ _ _ _ _ _)
   | (with_reducible exact ih1 _ _ _ _ _ _ _ _)
   | (with_reducible exact ih2 _ _ _ _ _ _ _ _ _)
   | (with_reducible exact trefoilref18_Check.mono _ _ _)
   | (with_reducible exact trefoilref18_Has.mono _ _ _ _)
   | (with_reducible exact trefoilref18_Job.mono _ _ _ _)
   | (with_reducible exact LeO.refl _)
   | (with_reducible exact LeO.none _)
   | (with_reducible refine LeO.ite ?_ ?_)
   | (with_reducible refine LeO.bind ?_ (fun _ => ?_))
   | exact ih0 _ _ _ _ _ _
   | exact ih1 _ _ _ _ _ _ _ _
   | exact ih2 _ _ _ _ _ _ _ _ _
   | exact trefoilref18_Check.mono _ _ _
   | exact trefoilref18_Has.mono _ _ _ _
   | exact trefoilref18_Job.mono _ _ _ _
   | exact LeO.none _
   | refine LeO.ite ?_ ?_
   | refine LeO.bind ?_ (fun _ => ?_)
theorem trefoilref18_Add.mono : ∀ a0 a1 a2 a3 a4 k, LeO (trefoilref18_Add.f k a0 a1 a2 a3 a4) (trefoilref18_Add.f (k + 1) a0 a1 a2 a3 a4) := by
 intro a0 a1 a2 a3 a4 k
 obtain ⟨ih0, ih1, ih2⟩ := trefoilref18_Add.mono_l k
 unfold trefoilref18_Add.f
 repeat' first
  | (with_reducible exact ih0 _ _ _ _ _ _)
  | (with_reducible exact ih1 _ _ _ _ _ _ _ _)
  | (with_reducible exact ih2 _ _ _ _ _ _ _ _ _)
  | (with_reducible exact trefoilref18_Check.mono _ _ _)
  | (with_reducible exact trefoilref18_Has.mono _ _ _ _)
  | (with_reducible exact trefoilref18_Job.mono _ _ _ _)
  | (with_reducible exact LeO.refl _)
  | (with_reducible exact LeO.none _)
  | (with_reducible refine LeO.ite ?_ ?_)
  | (with_reducible refine LeO.bind ?_ (fun _ => ?_))
  | exact ih0 _ _ _ _ _ _
  | exact ih1 _ _ _ _ _ _ _ _
  | exact ih2 _ _ _ _ _ _ _ _ _
  | exact trefoilref18_Check.mono _ _ _
  | exact trefoilref18_Has.mono _ _ _ _
  | exact trefoilref18_Job.mono _ _ _ _
  | exact LeO.none _
  | refine LeO.ite ?_ ?_
  | refine LeO.bind ?_ (fun _ => ?_)
def trefoilref18_Add.T13 : Bool × List (List Nat × List Nat) := (true, [([], []), ([0], [0]), ([], []), ([2], [2]), ([], []), ([3, 4], [3, 4]), ([5], [5]), ([6], [6]), ([1, 7], [1, 7]), ([0, 1, 2, 3, 4, 5, 6, 7, 8], []), ([9, 8, 8, 0, 1, 2, 3, 4, 5, 6, 7, 8], [8, 9])])
def trefoilref18_Add.B13 : List Nat := [0, 1, 0, 4, 0, 28, 60, 124, 255, 511, 1023]
theorem trefoilref18_Add.tab13 : rtab .any (opsOf Try.f12 13) = trefoilref18_Add.T13 := by kernel_rfl
theorem trefoilref18_Add.bits13 : waitsOk trefoilref18_Add.T13.2 trefoilref18_Add.B13 = true := by kernel_rfl
set_option maxHeartbeats 8000000 in
set_option maxRecDepth 100000 in
theorem trefoilref18_Add.calls (k : Nat) (P0_0_ : Nat → Prop) (A0_0 : Option Addr) (c0_0 : Nat) (l0_0 : List (S27)) (a0_1 : Int) (a1_0 : Int) (a1_1 : Int) (P1_2_ : Nat → Prop) (A1_2 : Option Addr) (c1_2 : Nat) (l1_2 : List Int) (r1 : List (S27)) (r2 : Int) (r3 : Int) (w : World) (hs0_0 : Kd.V k27 27 w w.heap.size (fun k_ => P0_0_ k_) (.slice A0_0 l0_0.length c0_0) l0_0) (hs1_2 : Kd.V (Kd.int .i64) 3 w w.heap.size (fun k_ => P1_2_ k_) (.slice A1_2 l1_2.length c1_2) l1_2) (h : trefoilref18_Add.f k l0_0 a0_1 a1_0 a1_1 l1_2 = some (r1, r2, r3)) :
 Calls Try.prog 12 #[.agg #[.slice A0_0 l0_0.length c0_0, .int .i64 a0_1], .agg #[.int .i64 a1_0, .int .i64 a1_1, .slice A1_2 l1_2.length c1_2]] w fun e w' => ∃ v0_ : Value, e = .returned (.tuple #[.agg #[v0_, .int .i64 r2], .int .i64 r3]) ∧ Kd.N k27 27 w' w.heap.size (fun k_ => ((P0_0_ k_ ∨ P1_2_ k_) ∨ w.heap.size ≤ k_)) v0_ r1 ∧ Below w.heap.size w w' := by
 have hu24 := Try.underlying24
 have hu27 := Try.underlying27
 have HO0_0 := Aside0.mk (show Kd.V k27 27 w w.heap.size (fun k_ => ((P0_0_ k_ ∨ P1_2_ k_) ∨ w.heap.size ≤ k_)) (.slice A0_0 l0_0.length c0_0) l0_0 from Kd.V_mono hs0_0 (fun k_ hk => .inl (.inl hk)))
 have HO1_2 := Aside0.mk (show Kd.V (Kd.int .i64) 3 w w.heap.size (fun k_ => ((P0_0_ k_ ∨ P1_2_ k_) ∨ w.heap.size ≤ k_)) (.slice A1_2 l1_2.length c1_2) l1_2 from Kd.V_mono hs1_2 (fun k_ hk => .inl (.inr hk)))
 have HB := Aside0.mk (Below.refl w.heap.size w)
 have H : ((trefoilref18_Check.f k l0_0 a0_1).bind fun t225 => (if t225 = true then ((trefoilref18_Job.f k a1_0 a1_1 l1_2).bind fun t226 => (trefoilref18_Add.j0 k (!t226) l0_0 a0_1 a1_0 a1_1 l1_2)) else (trefoilref18_Add.j0 k true l0_0 a0_1 a1_0 a1_1 l1_2))) = some (r1, r2, r3) := h
 clear h
 have HC3 := Aside0.mk H
 clear H
 go_enter Try.func12, Try.ntmps12
 go_upto_region 1 with (first | ((with_reducible refine gate_dst (N := 2) rfl ?_); refine box_event ?hg (N := 2) ?hd (cs := #[.slice A0_0 l0_0.length c0_0, .int .i64 a0_1]) (t := 24) ?hr ?_; (case hd => rfl); (case hg => rfl); (case hr => first | (go_simp; done) | (go_simp; rfl)); intro gb222 hg w4 hbox hb; have n0_ := Aside0.mk (Kd.V_below (Kd.V_elderB (kV_ HO0_0.out) gb222 (Nat.le_of_eq hg.symm)) hb); have n1_ := Aside0.mk (Kd.V_below (Kd.V_elderB (kV_ HO1_2.out) gb222 (Nat.le_of_eq hg.symm)) hb); have n2_ := Aside0.mk (below_step bw_ hb); have n3_ := Aside0.mk (hbox); have n4_ := Aside0.mk ((by rw [hg]; exact (below_size bw_) : w.heap.size ≤ gb222)); have n5_ := Aside0.mk ((by rw [hg]; exact (below_size bw_) : w.heap.size ≤ gb222)); clear HO0_0; clear HO1_2; clear HB; have HO0_0 := n0_; have HO1_2 := n1_; have HB := n2_; have BK222 := n3_; have GW222 := n4_; have GE222 := n5_; clear n0_ n1_ n2_ n3_ n4_ n5_; clear hb hbox hg) | ((with_reducible refine gate_dst (N := 3) rfl ?_); refine box_event ?hg (N := 3) ?hd (cs := #[.int .i64 a1_0, .int .i64 a1_1, .slice A1_2 l1_2.length c1_2]) (t := 27) ?hr ?_; (case hd => rfl); (case hg => rfl); (case hr => first | (go_simp; done) | (go_simp; rfl)); intro gb223 hg w5 hbox hb; have n0_ := Aside0.mk (Kd.V_below (Kd.V_elderB (kV_ HO0_0.out) gb223 (Nat.le_of_eq hg.symm)) hb); have n1_ := Aside0.mk (Kd.V_below (Kd.V_elderB (kV_ HO1_2.out) gb223 (Nat.le_of_eq hg.symm)) hb); have n2_ := Aside0.mk (blk_below (bk_ BK222.out) hb); have n3_ := Aside0.mk (below_step bx_ hb); have n4_ := Aside0.mk (hbox); have n5_ := Aside0.mk ((by rw [hg]; exact (below_size bx_) : w.heap.size ≤ gb223)); have n6_ := Aside0.mk ((by rw [hg]; exact (below_size bx_) : w.heap.size ≤ gb223)); have n7_ := Aside0.mk ((by rw [hg]; exact Nat.ne_of_lt (blk_lt (bk_ BK222.out)) : gb222 ≠ gb223)); have n8_ := Aside0.mk ((by rw [hg]; exact Nat.ne_of_gt (blk_lt (bk_ BK222.out)) : gb223 ≠ gb222)); clear HO0_0; clear HO1_2; clear BK222; clear HB; have HO0_0 := n0_; have HO1_2 := n1_; have BK222 := n2_; have HB := n3_; have BK223 := n4_; have GW223 := n5_; have GE223 := n6_; have NB222_223 := n7_; have NB223_222 := n8_; clear n0_ n1_ n2_ n3_ n4_ n5_ n6_ n7_ n8_; clear hb hbox hg) | ((with_reducible refine gate_dst (N := 4) rfl ?_); refine box_event ?hg (N := 4) ?hd (cs := #[.slice none 0 0, .int .i64 0]) (t := 24) ?hr ?_; (case hd => rfl); (case hg => rfl); (case hr => first | (go_simp; done) | (go_simp; rfl)); intro gb224 hg w6 hbox hb; have n0_ := Aside0.mk (Kd.V_below (Kd.V_elderB (kV_ HO0_0.out) gb224 (Nat.le_of_eq hg.symm)) hb); have n1_ := Aside0.mk (Kd.V_below (Kd.V_elderB (kV_ HO1_2.out) gb224 (Nat.le_of_eq hg.symm)) hb); have n2_ := Aside0.mk (blk_below (bk_ BK222.out) hb); have n3_ := Aside0.mk (blk_below (bk_ BK223.out) hb); have n4_ := Aside0.mk (below_step bx_ hb); have n5_ := Aside0.mk (hbox); have n6_ := Aside0.mk ((by rw [hg]; exact (below_size bx_) : w.heap.size ≤ gb224)); have n7_ := Aside0.mk ((by rw [hg]; exact (below_size bx_) : w.heap.size ≤ gb224)); have n8_ := Aside0.mk ((by rw [hg]; exact Nat.ne_of_lt (blk_lt (bk_ BK222.out)) : gb222 ≠ gb224)); have n9_ := Aside0.mk ((by rw [hg]; exact Nat.ne_of_gt (blk_lt (bk_ BK222.out)) : gb224 ≠ gb222)); have n10_ := Aside0.mk ((by rw [hg]; exact Nat.ne_of_lt (blk_lt (bk_ BK223.out)) : gb223 ≠ gb224)); have n11_ := Aside0.mk ((by rw [hg]; exact Nat.ne_of_gt (blk_lt (bk_ BK223.out)) : gb224 ≠ gb223)); clear HO0_0; clear HO1_2; clear BK222; clear BK223; clear HB; have HO0_0 := n0_; have HO1_2 := n1_; have BK222 := n2_; have BK223 := n3_; have HB := n4_; have BK224 := n5_; have GW224 := n6_; have GE224 := n7_; have NB222_224 := n8_; have NB224_222 := n9_; have NB223_224 := n10_; have NB224_223 := n11_; clear n0_ n1_ n2_ n3_ n4_ n5_ n6_ n7_ n8_ n9_ n10_ n11_; clear hb hbox hg))
 (try simp only [Act.put, List.setIfInBounds_toArray, List.set_cons_zero, List.set_cons_succ])
 go_cut [16] (fun v16 wc => ∃ (kq : Nat) (x16_2 : Bool), v16 = .bool x16_2 ∧ Aside0 (trefoilref18_Add.j0 kq x16_2 l0_0 a0_1 a1_0 a1_1 l1_2 = some (r1, r2, r3)) ∧ Aside0 (kq ≤ k) ∧ Aside0 (Kd.V k27 27 wc w.heap.size (fun k_ => ((P0_0_ k_ ∨ P1_2_ k_) ∨ w.heap.size ≤ k_) ∧ k_ ≠ gb222 ∧ k_ ≠ gb223 ∧ k_ ≠ gb224) (.slice A0_0 l0_0.length c0_0) l0_0) ∧ Aside0 (Kd.V (Kd.int .i64) 3 wc w.heap.size (fun k_ => ((P0_0_ k_ ∨ P1_2_ k_) ∨ w.heap.size ≤ k_) ∧ k_ ≠ gb222 ∧ k_ ≠ gb223 ∧ k_ ≠ gb224) (.slice A1_2 l1_2.length c1_2) l1_2) ∧ Aside0 (wc.heap[gb222]? = some (.cells #[(.slice A0_0 l0_0.length c0_0), .int .i64 a0_1] 24 (0, 0))) ∧ Aside0 (wc.heap[gb223]? = some (.cells #[.int .i64 a1_0, .int .i64 a1_1, (.slice A1_2 l1_2.length c1_2)] 27 (0, 0))) ∧ Aside0 (wc.heap[gb224]? = some (.cells #[(.slice none 0 0), .int .i64 0] 24 (0, 0))) ∧ Aside0 (Below w.heap.size w wc))
 case first =>
  have H := HC3.out
  clear HC3
  replace H := Option.bind_eq_some_iff.mp H
  obtain ⟨t225, A70, H⟩ := H
  replace H : (if t225 = true then ((trefoilref18_Job.f k a1_0 a1_1 l1_2).bind fun t226 => (trefoilref18_Add.j0 k (!t226) l0_0 a0_1 a1_0 a1_1 l1_2)) else (trefoilref18_Add.j0 k true l0_0 a0_1 a1_0 a1_1 l1_2)) = some (r1, r2, r3) := H
  have A7 := Aside0.mk A70
  clear A70
  by_cases c8 : t225 = true
  ·
   subst c8
   have H1 : ((trefoilref18_Job.f k a1_0 a1_1 l1_2).bind fun t226 => (trefoilref18_Add.j0 k (!t226) l0_0 a0_1 a1_0 a1_1 l1_2)) = some (r1, r2, r3) := by rw [if_pos rfl] at H; exact H
   clear H
   have H := H1
   clear H1
   replace H := Option.bind_eq_some_iff.mp H
   obtain ⟨t226, A90, H⟩ := H
   replace H : (trefoilref18_Add.j0 k (!t226) l0_0 a0_1 a1_0 a1_1 l1_2) = some (r1, r2, r3) := H
   have A9 := Aside0.mk A90
   clear A90
   have H' := Aside0.mk H
   clear H
   have hnb10 := NB222_223.out
   have hnc10 := NB223_222.out
   have hnb11 := NB222_224.out
   have hnc11 := NB224_222.out
   have hcz12_0 : w6.cell? ⟨gb222, 0, none⟩ = some (.slice A0_0 l0_0.length c0_0) := bcx_ BK222.out 0
   have hcz12_1 : w6.cell? ⟨gb222, 1, none⟩ = some (.int .i64 a0_1) := bcx_ BK222.out 1
   have hfz12_0 := blk_frozen BK222.out 0
   have hfz12_1 := blk_frozen BK222.out 1
   go_wp2_with (first | ((with_reducible refine gate_callee (f := 17) rfl ?_); refine goesL_ (some 10) rfl rfl Try.func17 (by kernel_rfl) rfl #[.agg #[.slice A0_0 l0_0.length c0_0, .int .i64 a0_1]] rfl (by (try simp only [List.map_toArray, List.map_cons, List.map_nil]); first | done | rfl | (simp only [List.length_drop, List.length_take]; rfl)) ?_; (with_reducible refine (trefoilref18_Check.calls k _ _ l0_0 a0_1 true _ ?side1 ?side2 A7.out).mono ?_); (case side1 => repeat (first | exact (Kd.V_reads' HO0_0.out).2.2 | (with_reducible refine Kd.C_alloc ?_ _) | (with_reducible refine Kd.C_drewN ?_ _) | (with_reducible refine Kd.C_drew ?_))); (case side2 => exact (Kd.V_reads' HO0_0.out).2.1); rintro e w13 ⟨rfl, hb⟩; refine ⟨_, rfl, ?_⟩; have n0_ := Aside0.mk (Kd.V_below (kV_ HO0_0.out) hb); have n1_ := Aside0.mk (Kd.V_below (kV_ HO1_2.out) hb); have n2_ := Aside0.mk (blk_below (bk_ BK222.out) hb); have n3_ := Aside0.mk (blk_below (bk_ BK223.out) hb); have n4_ := Aside0.mk (blk_below (bk_ BK224.out) hb); have n5_ := Aside0.mk (below_step bx_ hb); clear HO0_0; clear HO1_2; clear BK222; clear BK223; clear BK224; clear HB; have HO0_0 := n0_; have HO1_2 := n1_; have BK222 := n2_; have BK223 := n3_; have BK224 := n4_; have HB := n5_; clear n0_ n1_ n2_ n3_ n4_ n5_; (try clear hb); (try clear hb2); (try clear hk); (try clear hi); have hnb14 := NB223_224.out; have hnc14 := NB224_223.out; have hcz15_0 : w13.cell? ⟨gb223, 0, none⟩ = some (.int .i64 a1_0) := bcx_ BK223.out 0; have hcz15_1 : w13.cell? ⟨gb223, 1, none⟩ = some (.int .i64 a1_1) := bcx_ BK223.out 1; have hcz15_2 : w13.cell? ⟨gb223, 2, none⟩ = some (.slice A1_2 l1_2.length c1_2) := bcx_ BK223.out 2; have hfz15_0 := blk_frozen BK223.out 0; have hfz15_1 := blk_frozen BK223.out 1; have hfz15_2 := blk_frozen BK223.out 2) | (go_at_call 30; (with_reducible refine (trefoilref18_Job.calls k a1_0 a1_1 _ _ l1_2 t226 _ ?side1 ?side2 A9.out).mono ?_); (case side1 => repeat (first | exact (Kd.V_reads' HO1_2.out).2.2 | (with_reducible refine Kd.C_alloc ?_ _) | (with_reducible refine Kd.C_drewN ?_ _) | (with_reducible refine Kd.C_drew ?_))); (case side2 => exact (Kd.V_reads' HO1_2.out).2.1); rintro e w16 ⟨rfl, hb⟩; have n0_ := Aside0.mk (Kd.V_below (kV_ HO0_0.out) hb); have n1_ := Aside0.mk (Kd.V_below (kV_ HO1_2.out) hb); have n2_ := Aside0.mk (blk_below (bk_ BK222.out) hb); have n3_ := Aside0.mk (blk_below (bk_ BK223.out) hb); have n4_ := Aside0.mk (blk_below (bk_ BK224.out) hb); have n5_ := Aside0.mk (below_step bx_ hb); clear HO0_0; clear HO1_2; clear BK222; clear BK223; clear BK224; clear HB; have HO0_0 := n0_; have HO1_2 := n1_; have BK222 := n2_; have BK223 := n3_; have BK224 := n4_; have HB := n5_; clear n0_ n1_ n2_ n3_ n4_ n5_; (try clear hb); (try clear hb2); (try clear hk); (try clear hi)))
   go_meet
   case rel => exact ⟨_, (!t226), (by first | rfl | (simp; done) | (simp [*]; done)), H', ⟨by first | omega | exact Nat.le_refl _⟩, ⟨by (with_reducible repeat (first | apply Kd.V_alloc | apply Kd.V_drewN | apply Kd.V_drew)); exact Kd.V_mono HO0_0.out (fun _ hk => ⟨hk.1.1.1, ⟨hk.1.1.2, ⟨hk.1.2, hk.2⟩⟩⟩)⟩, ⟨by (with_reducible repeat (first | apply Kd.V_alloc | apply Kd.V_drewN | apply Kd.V_drew)); exact Kd.V_mono HO1_2.out (fun _ hk => ⟨hk.1.1.1, ⟨hk.1.1.2, ⟨hk.1.2, hk.2⟩⟩⟩)⟩, ⟨by (with_reducible repeat (first | refine blk_drewN ?_ _ | refine blk_drew ?_ | refine blk_alloc ?_ _)); exact BK222.out⟩, ⟨by (with_reducible repeat (first | refine blk_drewN ?_ _ | refine blk_drew ?_ | refine blk_alloc ?_ _)); exact BK223.out⟩, ⟨by (with_reducible repeat (first | refine blk_drewN ?_ _ | refine blk_drew ?_ | refine blk_alloc ?_ _)); exact BK224.out⟩, ⟨bx_⟩⟩
  ·
   replace c8 := Bool.eq_false_iff.mpr c8
   subst c8
   have H1 : (trefoilref18_Add.j0 k true l0_0 a0_1 a1_0 a1_1 l1_2) = some (r1, r2, r3) := by rw [if_neg (show ¬ (false = true) by decide)] at H; exact H
   clear H
   have H := H1
   clear H1
   have H' := Aside0.mk H
   clear H
   have hnb17 := NB222_223.out
   have hnc17 := NB223_222.out
   have hnb18 := NB222_224.out
   have hnc18 := NB224_222.out
   have hcz19_0 : w6.cell? ⟨gb222, 0, none⟩ = some (.slice A0_0 l0_0.length c0_0) := bcx_ BK222.out 0
   have hcz19_1 : w6.cell? ⟨gb222, 1, none⟩ = some (.int .i64 a0_1) := bcx_ BK222.out 1
   have hfz19_0 := blk_frozen BK222.out 0
   have hfz19_1 := blk_frozen BK222.out 1
   go_wp2_with (first | ((with_reducible refine gate_callee (f := 17) rfl ?_); refine goesL_ (some 10) rfl rfl Try.func17 (by kernel_rfl) rfl #[.agg #[.slice A0_0 l0_0.length c0_0, .int .i64 a0_1]] rfl (by (try simp only [List.map_toArray, List.map_cons, List.map_nil]); first | done | rfl | (simp only [List.length_drop, List.length_take]; rfl)) ?_; (with_reducible refine (trefoilref18_Check.calls k _ _ l0_0 a0_1 false _ ?side1 ?side2 A7.out).mono ?_); (case side1 => repeat (first | exact (Kd.V_reads' HO0_0.out).2.2 | (with_reducible refine Kd.C_alloc ?_ _) | (with_reducible refine Kd.C_drewN ?_ _) | (with_reducible refine Kd.C_drew ?_))); (case side2 => exact (Kd.V_reads' HO0_0.out).2.1); rintro e w20 ⟨rfl, hb⟩; refine ⟨_, rfl, ?_⟩; have n0_ := Aside0.mk (Kd.V_below (kV_ HO0_0.out) hb); have n1_ := Aside0.mk (Kd.V_below (kV_ HO1_2.out) hb); have n2_ := Aside0.mk (blk_below (bk_ BK222.out) hb); have n3_ := Aside0.mk (blk_below (bk_ BK223.out) hb); have n4_ := Aside0.mk (blk_below (bk_ BK224.out) hb); have n5_ := Aside0.mk (below_step bx_ hb); clear HO0_0; clear HO1_2; clear BK222; clear BK223; clear BK224; clear HB; have HO0_0 := n0_; have HO1_2 := n1_; have BK222 := n2_; have BK223 := n3_; have BK224 := n4_; have HB := n5_; clear n0_ n1_ n2_ n3_ n4_ n5_; (try clear hb); (try clear hb2); (try clear hk); (try clear hi)))
   go_meet
   case rel => exact ⟨_, (true), (by first | rfl | (simp; done) | (simp [*]; done)), H', ⟨by first | omega | exact Nat.le_refl _⟩, ⟨by (with_reducible repeat (first | apply Kd.V_alloc | apply Kd.V_drewN | apply Kd.V_drew)); exact Kd.V_mono HO0_0.out (fun _ hk => ⟨hk.1.1.1, ⟨hk.1.1.2, ⟨hk.1.2, hk.2⟩⟩⟩)⟩, ⟨by (with_reducible repeat (first | apply Kd.V_alloc | apply Kd.V_drewN | apply Kd.V_drew)); exact Kd.V_mono HO1_2.out (fun _ hk => ⟨hk.1.1.1, ⟨hk.1.1.2, ⟨hk.1.2, hk.2⟩⟩⟩)⟩, ⟨by (with_reducible repeat (first | refine blk_drewN ?_ _ | refine blk_drew ?_ | refine blk_alloc ?_ _)); exact BK222.out⟩, ⟨by (with_reducible repeat (first | refine blk_drewN ?_ _ | refine blk_drew ?_ | refine blk_alloc ?_ _)); exact BK223.out⟩, ⟨by (with_reducible repeat (first | refine blk_drewN ?_ _ | refine blk_drew ?_ | refine blk_alloc ?_ _)); exact BK224.out⟩, ⟨bx_⟩⟩
 case rest =>
  clear HC3
  try clear c1
  try clear p2
  try clear c8
  try clear c10
  try clear c11
  try clear c12
  try clear c14
  try clear c17
  try clear c18
  try clear hcz12_0
  try clear hcz12_1
  try clear hcz15_0
  try clear hcz15_1
  try clear hcz15_2
  try clear hcz19_0
  try clear hcz19_1
  try clear hfz12_0
  try clear hfz12_1
  try clear hfz15_0
  try clear hfz15_1
  try clear hfz15_2
  try clear hfz19_0
  try clear hfz19_1
  obtain ⟨kq, x16_2, rfl, HA, HJ2, HO_223000, HO_224002, BK222, BK223, BK224, HB⟩ := hcut
  cases kq with
  | zero => exact absurd HA.out (by simp [trefoilref18_Add.j0])
  | succ kj2 =>
   have H := HA.out
   clear HA
   simp only [trefoilref18_Add.j0] at H
   by_cases c21 : x16_2 = true
   ·
    subst c21
    have H1 : (some (([] : List (S27)), 0, 180)) = some (r1, r2, r3) := by rw [if_pos rfl] at H; exact H
    clear H
    have H := H1
    clear H1
    simp only [Option.some.injEq, Prod.mk.injEq] at H
    obtain ⟨rfl, rfl, rfl⟩ := H
    have hnb22 := NB224_222.out
    have hnc22 := NB222_224.out
    have hnb23 := NB224_223.out
    have hnc23 := NB223_224.out
    have hcz24_0 : wc.cell? ⟨gb224, 0, none⟩ = some (.slice none 0 0) := bcx_ BK224.out 0
    have hcz24_1 : wc.cell? ⟨gb224, 1, none⟩ = some (.int .i64 0) := bcx_ BK224.out 1
    have hfz24_0 := blk_frozen BK224.out 0
    have hfz24_1 := blk_frozen BK224.out 1
    go_wp2
    refine bodyPost_ret (results_ct rfl _ _ gb224 24 #[.slice none 0 0, .int .i64 0] (0, 0) _ rfl (by (with_reducible repeat (first | refine blk_drewN ?_ _ | refine blk_drew ?_ | refine blk_alloc ?_ _)); refine blk_put (cs := #[.slice none 0 0, .int .i64 0]) ?_ 1 _ rfl; (with_reducible repeat (first | refine blk_drewN ?_ _ | refine blk_drew ?_ | refine blk_alloc ?_ _)); refine blk_put (cs := #[.slice none 0 0, .int .i64 0]) ?_ 0 _ rfl; (with_reducible repeat (first | refine blk_drewN ?_ _ | refine blk_drew ?_ | refine blk_alloc ?_ _)); exact BK224.out) Try.underlying24 rfl (by kernel_rfl)) rfl ?_
    exact ⟨_, by first | rfl | (simp [errW_none, errW_some] <;> rfl) | (simp [*, errW_none, errW_some] <;> rfl), by first | exact Kd.S_nil _ _ _ _ _ | exact Kd.N_nil _ _ _ _ _ | exact Kd.V_nil _ _ _ _ _ | exact Kd.Q_nil _ _ _ _ _ | exact Kd.R_nil _ _ _ _ _, bx_⟩
   ·
    replace c21 := Bool.eq_false_iff.mpr c21
    subst c21
    have H1 : ((trefoilref18_Has.f kj2 l0_0 a0_1 a1_0).bind fun t227 => (if t227 = true then (some (([] : List (S27)), 0, 181)) else (trefoilref18_Add.l0 kj2 0 l0_0 a0_1 a1_0 a1_1 l1_2 ([] : List (S27)) a0_1))) = some (r1, r2, r3) := by rw [if_neg (show ¬ (false = true) by decide)] at H; exact H
    clear H
    have H := H1
    clear H1
    replace H := Option.bind_eq_some_iff.mp H
    obtain ⟨t227, A250, H⟩ := H
    replace H : (if t227 = true then (some (([] : List (S27)), 0, 181)) else (trefoilref18_Add.l0 kj2 0 l0_0 a0_1 a1_0 a1_1 l1_2 ([] : List (S27)) a0_1)) = some (r1, r2, r3) := H
    have A25 := Aside0.mk A250
    clear A250
    by_cases c26 : t227 = true
    ·
     subst c26
     have H1 : (some (([] : List (S27)), 0, 181)) = some (r1, r2, r3) := by rw [if_pos rfl] at H; exact H
     clear H
     have H := H1
     clear H1
     simp only [Option.some.injEq, Prod.mk.injEq] at H
     obtain ⟨rfl, rfl, rfl⟩ := H
     have hnb27 := NB222_223.out
     have hnc27 := NB223_222.out
     have hnb28 := NB222_224.out
     have hnc28 := NB224_222.out
     have hcz29_0 : wc.cell? ⟨gb222, 0, none⟩ = some (.slice A0_0 l0_0.length c0_0) := bcx_ BK222.out 0
     have hcz29_1 : wc.cell? ⟨gb222, 1, none⟩ = some (.int .i64 a0_1) := bcx_ BK222.out 1
     have hfz29_0 := blk_frozen BK222.out 0
     have hfz29_1 := blk_frozen BK222.out 1
     have hnb30 := NB223_224.out
     have hnc30 := NB224_223.out
     have hcz31_0 : wc.cell? ⟨gb223, 0, none⟩ = some (.int .i64 a1_0) := bcx_ BK223.out 0
     have hcz31_1 : wc.cell? ⟨gb223, 1, none⟩ = some (.int .i64 a1_1) := bcx_ BK223.out 1
     have hcz31_2 : wc.cell? ⟨gb223, 2, none⟩ = some (.slice A1_2 l1_2.length c1_2) := bcx_ BK223.out 2
     have hfz31_0 := blk_frozen BK223.out 0
     have hfz31_1 := blk_frozen BK223.out 1
     have hfz31_2 := blk_frozen BK223.out 2
     go_wp2_with (first | ((with_reducible refine gate_callee (f := 24) rfl ?_); refine goesL_ (some 21) rfl rfl Try.func24 (by kernel_rfl) rfl #[.agg #[.slice A0_0 l0_0.length c0_0, .int .i64 a0_1], .int .i64 a1_0] rfl (by (try simp only [List.map_toArray, List.map_cons, List.map_nil]); first | done | rfl | (simp only [List.length_drop, List.length_take]; rfl)) ?_; (with_reducible refine (trefoilref18_Has.calls kj2 _ _ l0_0 a0_1 a1_0 true _ ?side1 ?side2 A25.out).mono ?_); (case side1 => repeat (first | exact (Kd.V_reads' HO_223000.out).2.2 | (with_reducible refine Kd.C_alloc ?_ _) | (with_reducible refine Kd.C_drewN ?_ _) | (with_reducible refine Kd.C_drew ?_))); (case side2 => exact (Kd.V_reads' HO_223000.out).2.1); rintro e w32 ⟨rfl, hb⟩; refine ⟨_, rfl, ?_⟩; have n0_ := Aside0.mk (Kd.V_below (kV_ HO_223000.out) hb); have n1_ := Aside0.mk (Kd.V_below (kV_ HO_224002.out) hb); have n2_ := Aside0.mk (blk_below (bk_ BK222.out) hb); have n3_ := Aside0.mk (blk_below (bk_ BK223.out) hb); have n4_ := Aside0.mk (blk_below (bk_ BK224.out) hb); have n5_ := Aside0.mk (below_step bx_ hb); clear HO_223000; clear HO_224002; clear BK222; clear BK223; clear BK224; clear HB; have HO_223000 := n0_; have HO_224002 := n1_; have BK222 := n2_; have BK223 := n3_; have BK224 := n4_; have HB := n5_; clear n0_ n1_ n2_ n3_ n4_ n5_; (try clear hb); (try clear hb2); (try clear hk); (try clear hi); have hcz33_0 : w32.cell? ⟨gb224, 0, none⟩ = some (.slice none 0 0) := bcx_ BK224.out 0; have hcz33_1 : w32.cell? ⟨gb224, 1, none⟩ = some (.int .i64 0) := bcx_ BK224.out 1; have hfz33_0 := blk_frozen BK224.out 0; have hfz33_1 := blk_frozen BK224.out 1))
     refine bodyPost_ret (results_ct rfl _ _ gb224 24 #[.slice none 0 0, .int .i64 0] (0, 0) _ rfl (by (with_reducible repeat (first | refine blk_drewN ?_ _ | refine blk_drew ?_ | refine blk_alloc ?_ _)); refine blk_put (cs := #[.slice none 0 0, .int .i64 0]) ?_ 1 _ rfl; (with_reducible repeat (first | refine blk_drewN ?_ _ | refine blk_drew ?_ | refine blk_alloc ?_ _)); refine blk_put (cs := #[.slice none 0 0, .int .i64 0]) ?_ 0 _ rfl; (with_reducible repeat (first | refine blk_drewN ?_ _ | refine blk_drew ?_ | refine blk_alloc ?_ _)); exact BK224.out) Try.underlying24 rfl (by kernel_rfl)) rfl ?_
     exact ⟨_, by first | rfl | (simp [errW_none, errW_some] <;> rfl) | (simp [*, errW_none, errW_some] <;> rfl), by first | exact Kd.S_nil _ _ _ _ _ | exact Kd.N_nil _ _ _ _ _ | exact Kd.V_nil _ _ _ _ _ | exact Kd.Q_nil _ _ _ _ _ | exact Kd.R_nil _ _ _ _ _, bx_⟩
    ·
     replace c26 := Bool.eq_false_iff.mpr c26
     subst c26
     have H1 : (trefoilref18_Add.l0 kj2 0 l0_0 a0_1 a1_0 a1_1 l1_2 ([] : List (S27)) a0_1) = some (r1, r2, r3) := by rw [if_neg (show ¬ (false = true) by decide)] at H; exact H
     clear H
     have H := H1
     clear H1
     have H' := Aside0.mk H
     clear H
     have hnb34 := NB222_223.out
     have hnc34 := NB223_222.out
     have hnb35 := NB222_224.out
     have hnc35 := NB224_222.out
     have hcz36_0 : wc.cell? ⟨gb222, 0, none⟩ = some (.slice A0_0 l0_0.length c0_0) := bcx_ BK222.out 0
     have hcz36_1 : wc.cell? ⟨gb222, 1, none⟩ = some (.int .i64 a0_1) := bcx_ BK222.out 1
     have hfz36_0 := blk_frozen BK222.out 0
     have hfz36_1 := blk_frozen BK222.out 1
     have hnb37 := NB223_224.out
     have hnc37 := NB224_223.out
     have hcz38_0 : wc.cell? ⟨gb223, 0, none⟩ = some (.int .i64 a1_0) := bcx_ BK223.out 0
     have hcz38_1 : wc.cell? ⟨gb223, 1, none⟩ = some (.int .i64 a1_1) := bcx_ BK223.out 1
     have hcz38_2 : wc.cell? ⟨gb223, 2, none⟩ = some (.slice A1_2 l1_2.length c1_2) := bcx_ BK223.out 2
     have hfz38_0 := blk_frozen BK223.out 0
     have hfz38_1 := blk_frozen BK223.out 1
     have hfz38_2 := blk_frozen BK223.out 2
     go_wp2_with (first | ((with_reducible refine gate_callee (f := 24) rfl ?_); refine goesL_ (some 21) rfl rfl Try.func24 (by kernel_rfl) rfl #[.agg #[.slice A0_0 l0_0.length c0_0, .int .i64 a0_1], .int .i64 a1_0] rfl (by (try simp only [List.map_toArray, List.map_cons, List.map_nil]); first | done | rfl | (simp only [List.length_drop, List.length_take]; rfl)) ?_; (with_reducible refine (trefoilref18_Has.calls kj2 _ _ l0_0 a0_1 a1_0 false _ ?side1 ?side2 A25.out).mono ?_); (case side1 => repeat (first | exact (Kd.V_reads' HO_223000.out).2.2 | (with_reducible refine Kd.C_alloc ?_ _) | (with_reducible refine Kd.C_drewN ?_ _) | (with_reducible refine Kd.C_drew ?_))); (case side2 => exact (Kd.V_reads' HO_223000.out).2.1); rintro e w39 ⟨rfl, hb⟩; refine ⟨_, rfl, ?_⟩; have n0_ := Aside0.mk (Kd.V_below (kV_ HO_223000.out) hb); have n1_ := Aside0.mk (Kd.V_below (kV_ HO_224002.out) hb); have n2_ := Aside0.mk (blk_below (bk_ BK222.out) hb); have n3_ := Aside0.mk (blk_below (bk_ BK223.out) hb); have n4_ := Aside0.mk (blk_below (bk_ BK224.out) hb); have n5_ := Aside0.mk (below_step bx_ hb); clear HO_223000; clear HO_224002; clear BK222; clear BK223; clear BK224; clear HB; have HO_223000 := n0_; have HO_224002 := n1_; have BK222 := n2_; have BK223 := n3_; have BK224 := n4_; have HB := n5_; clear n0_ n1_ n2_ n3_ n4_ n5_; (try clear hb); (try clear hb2); (try clear hk); (try clear hi); have hcz40_0 : w39.cell? ⟨gb222, 0, none⟩ = some (.slice A0_0 l0_0.length c0_0) := bcx_ BK222.out 0; have hcz40_1 : w39.cell? ⟨gb222, 1, none⟩ = some (.int .i64 a0_1) := bcx_ BK222.out 1; have hfz40_0 := blk_frozen BK222.out 0; have hfz40_1 := blk_frozen BK222.out 1) | ((with_reducible refine gate_dst (N := 6) rfl ?_); refine box_event ?hg (N := 6) ?hd (cs := #[.slice none 0 0, .int .i64 0]) (t := 24) ?hr ?_; (case hd => rfl); (case hg => rfl); (case hr => first | (go_simp; done) | (go_simp; rfl)); intro gb228 hg w41 hbox hb; have n0_ := Aside0.mk (Kd.V_below (Kd.V_elderB (kV_ HO_223000.out) gb228 (Nat.le_of_eq hg.symm)) hb); have n1_ := Aside0.mk (Kd.V_below (Kd.V_elderB (kV_ HO_224002.out) gb228 (Nat.le_of_eq hg.symm)) hb); have n2_ := Aside0.mk (blk_below (bk_ BK222.out) hb); have n3_ := Aside0.mk (blk_below (bk_ BK223.out) hb); have n4_ := Aside0.mk (blk_below (bk_ BK224.out) hb); have n5_ := Aside0.mk (below_step bx_ hb); have n6_ := Aside0.mk (hbox); have n7_ := Aside0.mk ((by rw [hg]; exact (below_size bx_) : w.heap.size ≤ gb228)); have n8_ := Aside0.mk ((by rw [hg]; exact (below_size bx_) : w.heap.size ≤ gb228)); have n9_ := Aside0.mk ((by rw [hg]; exact Nat.ne_of_lt (blk_lt (bk_ BK222.out)) : gb222 ≠ gb228)); have n10_ := Aside0.mk ((by rw [hg]; exact Nat.ne_of_gt (blk_lt (bk_ BK222.out)) : gb228 ≠ gb222)); have n11_ := Aside0.mk ((by rw [hg]; exact Nat.ne_of_lt (blk_lt (bk_ BK223.out)) : gb223 ≠ gb228)); have n12_ := Aside0.mk ((by rw [hg]; exact Nat.ne_of_gt (blk_lt (bk_ BK223.out)) : gb228 ≠ gb223)); have n13_ := Aside0.mk ((by rw [hg]; exact Nat.ne_of_lt (blk_lt (bk_ BK224.out)) : gb224 ≠ gb228)); have n14_ := Aside0.mk ((by rw [hg]; exact Nat.ne_of_gt (blk_lt (bk_ BK224.out)) : gb228 ≠ gb224)); clear HO_223000; clear HO_224002; clear BK222; clear BK223; clear BK224; clear HB; have HO_223000 := n0_; have HO_224002 := n1_; have BK222 := n2_; have BK223 := n3_; have BK224 := n4_; have HB := n5_; have BK228 := n6_; have GW228 := n7_; have GE228 := n8_; have NB222_228 := n9_; have NB228_222 := n10_; have NB223_228 := n11_; have NB228_223 := n12_; have NB224_228 := n13_; have NB228_224 := n14_; clear n0_ n1_ n2_ n3_ n4_ n5_ n6_ n7_ n8_ n9_ n10_ n11_ n12_ n13_ n14_; clear hb hbox hg; have hnb42 := NB228_222.out; have hnc42 := NB222_228.out; have hnb43 := NB228_223.out; have hnc43 := NB223_228.out; have hnb44 := NB228_224.out; have hnc44 := NB224_228.out; have hcz45_0 : w41.cell? ⟨gb228, 0, none⟩ = some (.slice none 0 0) := bcx_ BK228.out 0; have hcz45_1 : w41.cell? ⟨gb228, 1, none⟩ = some (.int .i64 0) := bcx_ BK228.out 1; have hfz45_0 := blk_frozen BK228.out 0; have hfz45_1 := blk_frozen BK228.out 1))
     go_loopg [7] kj2 (fun kq v7 w' => ∃ (x7_2 : Int) (x229000_2 : List (S27)) (u229000 : Value), v7 = .int .i64 x7_2 ∧ Aside0 (trefoilref18_Add.l0 kq x7_2 l0_0 a0_1 a1_0 a1_1 l1_2 x229000_2 a0_1 = some (r1, r2, r3)) ∧ Aside0 (kq ≤ kj2) ∧ Aside0 (Kd.V k27 27 w' w.heap.size (fun k_ => ((P0_0_ k_ ∨ P1_2_ k_) ∨ w.heap.size ≤ k_) ∧ some k_ ≠ (u229000 : Value).ownBlock ∧ k_ ≠ gb222 ∧ k_ ≠ gb223 ∧ k_ ≠ gb224 ∧ k_ ≠ gb228) (.slice A0_0 l0_0.length c0_0) l0_0) ∧ Aside0 (Kd.V (Kd.int .i64) 3 w' w.heap.size (fun k_ => ((P0_0_ k_ ∨ P1_2_ k_) ∨ w.heap.size ≤ k_) ∧ some k_ ≠ (u229000 : Value).ownBlock ∧ k_ ≠ gb222 ∧ k_ ≠ gb223 ∧ k_ ≠ gb224 ∧ k_ ≠ gb228) (.slice A1_2 l1_2.length c1_2) l1_2) ∧ Aside0 (Kd.N k27 27 w' w.heap.size (fun k_ => ((P0_0_ k_ ∨ P1_2_ k_) ∨ w.heap.size ≤ k_) ∧ k_ ≠ gb222 ∧ k_ ≠ gb223 ∧ k_ ≠ gb224 ∧ k_ ≠ gb228) u229000 x229000_2) ∧ Aside0 (w'.heap[gb222]? = some (.cells #[(.slice A0_0 l0_0.length c0_0), .int .i64 a0_1] 24 (0, 0))) ∧ Aside0 (w'.heap[gb223]? = some (.cells #[.int .i64 a1_0, .int .i64 a1_1, (.slice A1_2 l1_2.length c1_2)] 27 (0, 0))) ∧ Aside0 (w'.heap[gb224]? = some (.cells #[(.slice none 0 0), .int .i64 0] 24 (0, 0))) ∧ Aside0 (w'.heap[gb228]? = some (.cells #[u229000, .int .i64 a0_1] 24 (0, 0))) ∧ Aside0 (Below w.heap.size w w'))
     case atStart => exact ⟨(0), (([] : List (S27))), (.slice none 0 0), (by first | rfl | (simp; done) | (simp [*]; done)), H', ⟨Nat.le_refl _⟩, ⟨by (with_reducible repeat (first | apply Kd.V_alloc | apply Kd.V_drewN | apply Kd.V_drew)); exact Kd.V_mono (Kd.V_far (p := ⟨gb228, 1, none⟩) (Kd.V_far (p := ⟨gb228, 0, none⟩) (Kd.V_mono HO_223000.out (fun k_ hk => (⟨hk, hk.2⟩ : _ ∧ k_ ≠ gb228))) (fun _ hk => hk.2) (.slice none 0 0)) (fun _ hk => hk.2) (.int .i64 a0_1)) (fun _ hk => ⟨hk.1.1.1, ⟨(by simp [Value.ownBlock]), ⟨hk.1.1.2.1, ⟨hk.1.1.2.2.1, ⟨hk.1.1.2.2.2, hk.1.2⟩⟩⟩⟩⟩)⟩, ⟨by (with_reducible repeat (first | apply Kd.V_alloc | apply Kd.V_drewN | apply Kd.V_drew)); exact Kd.V_mono (Kd.V_far (p := ⟨gb228, 1, none⟩) (Kd.V_far (p := ⟨gb228, 0, none⟩) (Kd.V_mono HO_224002.out (fun k_ hk => (⟨hk, hk.2⟩ : _ ∧ k_ ≠ gb228))) (fun _ hk => hk.2) (.slice none 0 0)) (fun _ hk => hk.2) (.int .i64 a0_1)) (fun _ hk => ⟨hk.1.1.1, ⟨(by simp [Value.ownBlock]), ⟨hk.1.1.2.1, ⟨hk.1.1.2.2.1, ⟨hk.1.1.2.2.2, hk.1.2⟩⟩⟩⟩⟩)⟩, ⟨by first | exact Kd.S_nil _ _ _ _ _ | exact Kd.N_nil _ _ _ _ _ | exact Kd.V_nil _ _ _ _ _ | exact Kd.Q_nil _ _ _ _ _ | exact Kd.R_nil _ _ _ _ _⟩, ⟨by (with_reducible repeat (first | refine blk_drewN ?_ _ | refine blk_drew ?_ | refine blk_alloc ?_ _)); refine blk_far ?_ NB222_228.out _; (with_reducible repeat (first | refine blk_drewN ?_ _ | refine blk_drew ?_ | refine blk_alloc ?_ _)); refine blk_far ?_ NB222_228.out _; (with_reducible repeat (first | refine blk_drewN ?_ _ | refine blk_drew ?_ | refine blk_alloc ?_ _)); exact BK222.out⟩, ⟨by (with_reducible repeat (first | refine blk_drewN ?_ _ | refine blk_drew ?_ | refine blk_alloc ?_ _)); refine blk_far ?_ NB223_228.out _; (with_reducible repeat (first | refine blk_drewN ?_ _ | refine blk_drew ?_ | refine blk_alloc ?_ _)); refine blk_far ?_ NB223_228.out _; (with_reducible repeat (first | refine blk_drewN ?_ _ | refine blk_drew ?_ | refine blk_alloc ?_ _)); exact BK223.out⟩, ⟨by (with_reducible repeat (first | refine blk_drewN ?_ _ | refine blk_drew ?_ | refine blk_alloc ?_ _)); refine blk_far ?_ NB224_228.out _; (with_reducible repeat (first | refine blk_drewN ?_ _ | refine blk_drew ?_ | refine blk_alloc ?_ _)); refine blk_far ?_ NB224_228.out _; (with_reducible repeat (first | refine blk_drewN ?_ _ | refine blk_drew ?_ | refine blk_alloc ?_ _)); exact BK224.out⟩, ⟨by (with_reducible repeat (first | refine blk_drewN ?_ _ | refine blk_drew ?_ | refine blk_alloc ?_ _)); refine blk_put (cs := #[.slice none 0 0, .int .i64 0]) ?_ 1 _ rfl; (with_reducible repeat (first | refine blk_drewN ?_ _ | refine blk_drew ?_ | refine blk_alloc ?_ _)); refine blk_put (cs := #[.slice none 0 0, .int .i64 0]) ?_ 0 _ rfl; (with_reducible repeat (first | refine blk_drewN ?_ _ | refine blk_drew ?_ | refine blk_alloc ?_ _)); exact BK228.out⟩, ⟨bx_⟩⟩
     case round =>
      clear H'
      try clear c1
      try clear c2
      try clear p2
      try clear c3
      try clear c4
      try clear c8
      try clear c10
      try clear c11
      try clear c12
      try clear c14
      try clear c17
      try clear c18
      try clear c21
      try clear c22
      try clear c23
      try clear c24
      try clear c26
      try clear c27
      try clear c28
      try clear c30
      try clear c34
      try clear c35
      try clear c37
      try clear c42
      try clear c43
      try clear c44
      try clear hcz12_0
      try clear hcz12_1
      try clear hcz15_0
      try clear hcz15_1
      try clear hcz15_2
      try clear hcz19_0
      try clear hcz19_1
      try clear hcz24_0
      try clear hcz24_1
      try clear hcz29_0
      try clear hcz29_1
      try clear hcz31_0
      try clear hcz31_1
      try clear hcz31_2
      try clear hcz33_0
      try clear hcz33_1
      try clear hcz36_0
      try clear hcz36_1
      try clear hcz38_0
      try clear hcz38_1
      try clear hcz38_2
      try clear hcz40_0
      try clear hcz40_1
      try clear hcz45_0
      try clear hcz45_1
      try clear hfz12_0
      try clear hfz12_1
      try clear hfz15_0
      try clear hfz15_1
      try clear hfz15_2
      try clear hfz19_0
      try clear hfz19_1
      try clear hfz24_0
      try clear hfz24_1
      try clear hfz29_0
      try clear hfz29_1
      try clear hfz31_0
      try clear hfz31_1
      try clear hfz31_2
      try clear hfz33_0
      try clear hfz33_1
      try clear hfz36_0
      try clear hfz36_1
      try clear hfz38_0
      try clear hfz38_1
      try clear hfz38_2
      try clear hfz40_0
      try clear hfz40_1
      try clear hfz45_0
      try clear hfz45_1
      try clear p2
      obtain ⟨x7_2, x229000_2, u229000, rfl, HA, HK2, HO_223000, HO_224002, HO_229000, BK222, BK223, BK224, BK228, HB⟩ := hrel
      cases gk with
      | zero => exact absurd HA.out (by simp [trefoilref18_Add.l0])
      | succ k2 =>
       have H := HA.out
       clear HA
       simp only [trefoilref18_Add.l0] at H
       by_cases c46 : x7_2 < 8
       ·
        rw [if_pos c46] at H
        have c46b0 : decide (x7_2 < 8) = true := decide_eq_true c46
        clear c46
        have H' := Aside0.mk H
        clear H
        go_wp2
        go_loopg [8] k2 (fun kq v8 w' => ∃ (x8_3 : Int) (x229000_3 : List (S27)) (u229000 : Value), v8 = .int .i64 x8_3 ∧ Aside0 (trefoilref18_Add.l1 kq x7_2 x8_3 l0_0 a0_1 a1_0 a1_1 l1_2 x229000_3 a0_1 = some (r1, r2, r3)) ∧ Aside0 (kq ≤ k2) ∧ Aside0 (Kd.V k27 27 w' w.heap.size (fun k_ => ((P0_0_ k_ ∨ P1_2_ k_) ∨ w.heap.size ≤ k_) ∧ some k_ ≠ (u229000 : Value).ownBlock ∧ k_ ≠ gb222 ∧ k_ ≠ gb223 ∧ k_ ≠ gb224 ∧ k_ ≠ gb228) (.slice A0_0 l0_0.length c0_0) l0_0) ∧ Aside0 (Kd.V (Kd.int .i64) 3 w' w.heap.size (fun k_ => ((P0_0_ k_ ∨ P1_2_ k_) ∨ w.heap.size ≤ k_) ∧ some k_ ≠ (u229000 : Value).ownBlock ∧ k_ ≠ gb222 ∧ k_ ≠ gb223 ∧ k_ ≠ gb224 ∧ k_ ≠ gb228) (.slice A1_2 l1_2.length c1_2) l1_2) ∧ Aside0 (Kd.N k27 27 w' w.heap.size (fun k_ => ((P0_0_ k_ ∨ P1_2_ k_) ∨ w.heap.size ≤ k_) ∧ k_ ≠ gb222 ∧ k_ ≠ gb223 ∧ k_ ≠ gb224 ∧ k_ ≠ gb228) u229000 x229000_3) ∧ Aside0 (w'.heap[gb222]? = some (.cells #[(.slice A0_0 l0_0.length c0_0), .int .i64 a0_1] 24 (0, 0))) ∧ Aside0 (w'.heap[gb223]? = some (.cells #[.int .i64 a1_0, .int .i64 a1_1, (.slice A1_2 l1_2.length c1_2)] 27 (0, 0))) ∧ Aside0 (w'.heap[gb224]? = some (.cells #[(.slice none 0 0), .int .i64 0] 24 (0, 0))) ∧ Aside0 (w'.heap[gb228]? = some (.cells #[u229000, .int .i64 a0_1] 24 (0, 0))) ∧ Aside0 (Below w.heap.size w w'))
        case atStart => exact ⟨(0), (x229000_2), (u229000), (by first | rfl | (simp; done) | (simp [*]; done)), H', ⟨Nat.le_refl _⟩, ⟨by (with_reducible repeat (first | apply Kd.V_alloc | apply Kd.V_drewN | apply Kd.V_drew)); exact HO_223000.out⟩, ⟨by (with_reducible repeat (first | apply Kd.V_alloc | apply Kd.V_drewN | apply Kd.V_drew)); exact HO_224002.out⟩, ⟨by (with_reducible repeat (first | apply Kd.N_alloc | apply Kd.N_drewN | apply Kd.N_drew)); exact HO_229000.out⟩, ⟨by (with_reducible repeat (first | refine blk_drewN ?_ _ | refine blk_drew ?_ | refine blk_alloc ?_ _)); exact BK222.out⟩, ⟨by (with_reducible repeat (first | refine blk_drewN ?_ _ | refine blk_drew ?_ | refine blk_alloc ?_ _)); exact BK223.out⟩, ⟨by (with_reducible repeat (first | refine blk_drewN ?_ _ | refine blk_drew ?_ | refine blk_alloc ?_ _)); exact BK224.out⟩, ⟨by (with_reducible repeat (first | refine blk_drewN ?_ _ | refine blk_drew ?_ | refine blk_alloc ?_ _)); exact BK228.out⟩, ⟨bx_⟩⟩
        case round =>
         clear H'
         try clear c1
         try clear c2
         try clear p2
         try clear c3
         try clear c4
         try clear c8
         try clear c10
         try clear c11
         try clear c12
         try clear c14
         try clear c17
         try clear c18
         try clear c21
         try clear c22
         try clear c23
         try clear c24
         try clear c26
         try clear c27
         try clear c28
         try clear c30
         try clear c34
         try clear c35
         try clear c37
         try clear c42
         try clear c43
         try clear c44
         try clear c46
         try clear c46b0
         try clear hcz12_0
         try clear hcz12_1
         try clear hcz15_0
         try clear hcz15_1
         try clear hcz15_2
         try clear hcz19_0
         try clear hcz19_1
         try clear hcz24_0
         try clear hcz24_1
         try clear hcz29_0
         try clear hcz29_1
         try clear hcz31_0
         try clear hcz31_1
         try clear hcz31_2
         try clear hcz33_0
         try clear hcz33_1
         try clear hcz36_0
         try clear hcz36_1
         try clear hcz38_0
         try clear hcz38_1
         try clear hcz38_2
         try clear hcz40_0
         try clear hcz40_1
         try clear hcz45_0
         try clear hcz45_1
         try clear hfz12_0
         try clear hfz12_1
         try clear hfz15_0
         try clear hfz15_1
         try clear hfz15_2
         try clear hfz19_0
         try clear hfz19_1
         try clear hfz24_0
         try clear hfz24_1
         try clear hfz29_0
         try clear hfz29_1
         try clear hfz31_0
         try clear hfz31_1
         try clear hfz31_2
         try clear hfz33_0
         try clear hfz33_1
         try clear hfz36_0
         try clear hfz36_1
         try clear hfz38_0
         try clear hfz38_1
         try clear hfz38_2
         try clear hfz40_0
         try clear hfz40_1
         try clear hfz45_0
         try clear hfz45_1
         try clear p2
         obtain ⟨x8_3, x229000_3, u229000, rfl, HA, HK3, HO_223000, HO_224002, HO_229000, BK222, BK223, BK224, BK228, HB⟩ := hrel
         cases gk with
         | zero => exact absurd HA.out (by simp [trefoilref18_Add.l1])
         | succ k3 =>
          have H := HA.out
          clear HA
          simp only [trefoilref18_Add.l1] at H
          by_cases c47 : x8_3 < (l0_0.length : Int)
          ·
           rw [if_pos c47] at H
           have c47b0 : decide (x8_3 < (l0_0.length : Int)) = true := decide_eq_true c47
           clear c47
           by_cases c48 : 0 ≤ x8_3
           ·
            rw [if_pos c48] at H
            have c48b0 : decide (0 ≤ x8_3) = true := decide_eq_true c48
            clear c48
            by_cases c49 : ((rd_T27 l0_0 x8_3).f0) = x7_2
            ·
             rw [if_pos c49] at H
             have c49b0 : (((rd_T27 l0_0 x8_3).f0) == x7_2) = true := beq_iff_eq.mpr c49
             have c49b1 : (((rd_T27 l0_0 x8_3).f0) != x7_2) = false := bne_eq_false_iff_eq.mpr c49
             clear c49
             by_cases c50 : x229000_3.length < 3518437208883
             ·
              rw [if_pos c50] at H
              have LMc50 := Aside0.mk c50
              clear c50
              obtain ⟨y231, hy231⟩ : ∃ y_ : List (S27), y_ = (x229000_3 ++ [(⟨(rd_T27 l0_0 x8_3).f0, (rd_T27 l0_0 x8_3).f1, (rd_T27 l0_0 x8_3).f2⟩ : S27)]) := ⟨_, rfl⟩
              replace H : (trefoilref18_Add.l1 k3 x7_2 (wrap64 (x8_3 + 1)) l0_0 a0_1 a1_0 a1_1 l1_2 y231 a0_1) = some (r1, r2, r3) := by first | (rw [hy231]; with_reducible exact H) | (have H2_ := (Option.bind_some _ _).symm.trans H; rw [hy231]; with_reducible exact H2_) | (have H2_ := (Option.bind_some _ _).symm.trans H; with_reducible exact H2_) | with_reducible exact H | (rw [hy231]; exact H) | exact H
              have Ny231 := Aside0.mk hy231
              clear hy231
              have H' := Aside0.mk H
              clear H
              have hnb51 := NB222_223.out
              have hnc51 := NB223_222.out
              have hnb52 := NB222_224.out
              have hnc52 := NB224_222.out
              have hnb53 := NB222_228.out
              have hnc53 := NB228_222.out
              have hcz54_0 : wr.cell? ⟨gb222, 0, none⟩ = some (.slice A0_0 l0_0.length c0_0) := bcx_ BK222.out 0
              have hcz54_1 : wr.cell? ⟨gb222, 1, none⟩ = some (.int .i64 a0_1) := bcx_ BK222.out 1
              have hfz54_0 := blk_frozen BK222.out 0
              have hfz54_1 := blk_frozen BK222.out 1
              have p229 : 0 ≤ (x8_3 : Int) := of_decide_eq_true (by first | (with_reducible assumption) | assumption)
              have q229 : x8_3 < (l0_0.length : Int) := of_decide_eq_true (by first | (with_reducible assumption) | assumption)
              obtain ⟨ad229, A229_2, c229_2, e229, hx229_0, hx229_1, hx229_2, hl229_2, hi229_2⟩ := at_T27 (Kd.V_reads' HO_223000.out).2.2 x8_3 p229 q229
              cases e229
              obtain ⟨ce229, hce229, hMe229, hcc229⟩ := Kd.V_get HO_223000.out z27 x8_3 p229 (by first | exact q229 | exact of_decide_eq_true (by first | (with_reducible assumption) | assumption) | (have e_ := (Kd.V_reads' HO_223000.out).1; omega))
              obtain ⟨ua229_2, uc229_2, rfl, ul229_2, ge229_2⟩ := k27_openF hMe229
              have hv229_2 := hcc229 2 _ rfl
              rw [add_field _ _ 2 (by omega)] at hv229_2
              replace hv229_2 := Option.some.inj (hv229_2.symm.trans hx229_2)
              injection hv229_2 with hva_ hvn_ hvc_
              rw [hva_] at ge229_2
              rw [hvc_] at ul229_2
              have HL229_2 := Aside0.mk (show Kd.V (Kd.int .i64) 3 _ w.heap.size _ _ ((rd_T27 l0_0 x8_3).f2) from Kd.V_mk ul229_2 ge229_2)
              clear hva_ hvn_ hvc_ ge229_2 ul229_2
              clear hcc229 hce229
              have HR229_2 := Aside0.mk hi229_2
              have HC229_2 := Aside0.mk hl229_2
              clear hi229_2 hl229_2
              replace p229 := eq_true p229
              replace q229 := eq_true q229
              try go_wp2
              have n0_ := Aside0.mk (Kd.V_drew HO_223000.out)
              have n1_ := Aside0.mk (Kd.V_drew HO_224002.out)
              have n2_ := Aside0.mk (Kd.N_drew HO_229000.out)
              have n3_ := Aside0.mk (Kd.V_drew HL229_2.out)
              have n4_ := Aside0.mk (blk_drew BK222.out)
              have n5_ := Aside0.mk (blk_drew BK223.out)
              have n6_ := Aside0.mk (blk_drew BK224.out)
              have n7_ := Aside0.mk (blk_drew BK228.out)
              have n8_ := Aside0.mk (Kd.C_drew HR229_2.out)
              have n9_ := Aside0.mk (below_drew1 HB.out)
              clear HO_223000
              clear HO_224002
              clear HO_229000
              clear HL229_2
              clear BK222
              clear BK223
              clear BK224
              clear BK228
              clear HR229_2
              clear HB
              have HO_223000 := n0_
              have HO_224002 := n1_
              have HO_229000 := n2_
              have HL229_2 := n3_
              have BK222 := n4_
              have BK223 := n5_
              have BK224 := n6_
              have BK228 := n7_
              have HR229_2 := n8_
              have HB := n9_
              clear n0_ n1_ n2_ n3_ n4_ n5_ n6_ n7_ n8_ n9_
              have p230 : 0 ≤ (x8_3 : Int) := of_decide_eq_true (by first | (with_reducible assumption) | assumption)
              have q230 : x8_3 < (l0_0.length : Int) := of_decide_eq_true (by first | (with_reducible assumption) | assumption)
              obtain ⟨ad230, A230_2, c230_2, e230, hx230_0, hx230_1, hx230_2, hl230_2, hi230_2⟩ := at_T27 (Kd.V_reads' HO_223000.out).2.2 x8_3 p230 q230
              obtain rfl : ad229 = ad230 := (by injection e230)
              obtain ⟨ce230, hce230, hMe230, hcc230⟩ := Kd.V_get HO_223000.out z27 x8_3 p230 (by first | exact q230 | exact of_decide_eq_true (by first | (with_reducible assumption) | assumption) | (have e_ := (Kd.V_reads' HO_223000.out).1; omega))
              obtain ⟨ua230_2, uc230_2, rfl, ul230_2, ge230_2⟩ := k27_openF hMe230
              have hv230_2 := hcc230 2 _ rfl
              rw [add_field _ _ 2 (by omega)] at hv230_2
              replace hv230_2 := Option.some.inj (hv230_2.symm.trans hx230_2)
              injection hv230_2 with hva_ hvn_ hvc_
              rw [hva_] at ge230_2
              rw [hvc_] at ul230_2
              have HL230_2 := Aside0.mk (show Kd.V (Kd.int .i64) 3 _ w.heap.size _ _ ((rd_T27 l0_0 x8_3).f2) from Kd.V_mk ul230_2 ge230_2)
              clear hva_ hvn_ hvc_ ge230_2 ul230_2
              clear hcc230 hce230
              have HR230_2 := Aside0.mk hi230_2
              have HC230_2 := Aside0.mk hl230_2
              clear hi230_2 hl230_2
              replace p230 := eq_true p230
              replace q230 := eq_true q230
              refine start_ (n := 11) (S := fun w' => w'.cell? ⟨gb228, 0, none⟩ = some (u229000) ∧ w'.cell? ⟨gb228, 1, none⟩ = some (.int .i64 a0_1) ∧ w'.cell? ⟨gb222, 0, none⟩ = some (.slice (some ad229) l0_0.length c0_0) ∧ w'.cell? ⟨gb222, 1, none⟩ = some (.int .i64 a0_1) ∧ w'.cell? (ad229.add ((x8_3).toNat * 3)) = some (.int .i64 ((rd_T27 l0_0 x8_3).f0)) ∧ w'.cell? ⟨(ad229.add ((x8_3).toNat * 3)).block, (ad229.add ((x8_3).toNat * 3)).off + 1, none⟩ = some (.int .i64 ((rd_T27 l0_0 x8_3).f1)) ∧ w'.cell? ⟨(ad229.add ((x8_3).toNat * 3)).block, (ad229.add ((x8_3).toNat * 3)).off + 2, none⟩ = some (.slice A230_2 ((rd_T27 l0_0 x8_3).f2).length c230_2)) (ds := [8, 10]) #[false, false, false, false, false, false, false, false, false, false, false] (by kernel_rfl) rfl rfl ⟨bcx_ BK228.out 0, bcx_ BK228.out 1, bcx_ BK222.out 0, bcx_ BK222.out 1, hx230_0, hx230_1, hx230_2⟩ (fun hHeld => ?_); refine with_tabW trefoilref18_Add.tab13 trefoilref18_Add.bits13 (fun HT_ HW_ => ?_)
              generalize wr.drew = w55 at HO_223000 HO_224002 HO_229000 HL229_2 BK222 BK223 BK224 BK228 HR229_2 HB HL230_2 HR230_2 hx230_0 hx230_1 hx230_2 hHeld ⊢
              refine pure_ (i := 0) (N := some 45) (v := ?_) (a' := ?_) #[true, false, false, false, false, false, false, false, false, false, false] rfl rfl (any_of HT_.out (by kernel_rfl)) (fun _ _ _ h => h) (Or.inl ⟨by rfl, ?_⟩) ?_ ?_
              rotate_left
              ·
               intro w'
               go_simp
               with_reducible rfl
              rotate_left
              ·
               simp only [Act.put, List.setIfInBounds_toArray, List.set_cons_zero, List.set_cons_succ, i64_w, i32_w]
               rfl
              refine pure_ (i := 2) (N := some 47) (v := ?_) (a' := ?_) #[true, false, true, false, false, false, false, false, false, false, false] rfl rfl (any_of HT_.out (by kernel_rfl)) (fun _ _ _ h => h) (Or.inl ⟨by rfl, ?_⟩) ?_ ?_
              rotate_left
              ·
               intro w'
               go_simp
               with_reducible rfl
              rotate_left
              ·
               simp only [Act.put, List.setIfInBounds_toArray, List.set_cons_zero, List.set_cons_succ, i64_w, i32_w]
               rfl
              refine pure_ (i := 4) (N := some 49) (v := ?_) (a' := ?_) #[true, false, true, false, true, false, false, false, false, false, false] rfl rfl (any_of HT_.out (by kernel_rfl)) (fun _ _ _ h => h) (Or.inl ⟨by rfl, ?_⟩) ?_ ?_
              rotate_left
              ·
               intro w'
               go_simp
               with_reducible rfl
              rotate_left
              ·
               simp only [Act.put, List.setIfInBounds_toArray, List.set_cons_zero, List.set_cons_succ, i64_w, i32_w]
               rfl
              refine take_ (i := 1) (N := some 46) (v := ?_) (a' := ?_) #[true, true, true, false, true, false, false, false, false, false, false] rfl rfl (take_ofW HT_.out HW_.out (by kernel_rfl)) (fun _ _ _ h => h) (Or.inl ⟨by rfl, ?_⟩) hHeld ?_ ?_
              rotate_left
              ·
               rintro w' ⟨s0, s1, s2, s3, s4, s5, s6⟩
               go_simp
               with_reducible rfl
              rotate_left
              ·
               simp only [Act.put, List.setIfInBounds_toArray, List.set_cons_zero, List.set_cons_succ, i64_w, i32_w]
               rfl
              refine take_ (i := 3) (N := some 48) (v := ?_) (a' := ?_) #[true, true, true, true, true, false, false, false, false, false, false] rfl rfl (take_ofW HT_.out HW_.out (by kernel_rfl)) (fun _ _ _ h => h) (Or.inl ⟨by rfl, ?_⟩) hHeld ?_ ?_
              rotate_left
              ·
               rintro w' ⟨s0, s1, s2, s3, s4, s5, s6⟩
               go_simp
               with_reducible rfl
              rotate_left
              ·
               simp only [Act.put, List.setIfInBounds_toArray, List.set_cons_zero, List.set_cons_succ, i64_w, i32_w]
               rfl
              refine pure_ (i := 5) (N := some 50) (v := ?_) (a' := ?_) #[true, true, true, true, true, true, false, false, false, false, false] rfl rfl (any_of HT_.out (by kernel_rfl)) (fun _ _ _ h => h) (Or.inl ⟨by rfl, ?_⟩) ?_ ?_
              rotate_left
              ·
               intro w'
               go_simp
               with_reducible rfl
              rotate_left
              ·
               simp only [Act.put, List.setIfInBounds_toArray, List.set_cons_zero, List.set_cons_succ, i64_w, i32_w]
               rfl
              refine take_ (i := 6) (N := some 51) (v := ?_) (a' := ?_) #[true, true, true, true, true, true, true, false, false, false, false] rfl rfl (take_ofW HT_.out HW_.out (by kernel_rfl)) (fun _ _ _ h => h) (Or.inl ⟨by rfl, ?_⟩) hHeld ?_ ?_
              rotate_left
              ·
               rintro w' ⟨s0, s1, s2, s3, s4, s5, s6⟩
               go_simp
               with_reducible rfl
              rotate_left
              ·
               simp only [Act.put, List.setIfInBounds_toArray, List.set_cons_zero, List.set_cons_succ, i64_w, i32_w]
               rfl
              refine one_ (i := 7) (N := some 52) #[true, true, true, true, true, true, true, true, false, false, false] rfl rfl (one_of HT_.out (by kernel_rfl)) (by decide) (fun K hK => ?_)
              refine value_ (w1 := ?_) (v := ?_) (by rfl) rfl ?_ ?_
              rotate_left 2
              ·
               go_simp
               constructor
               · rfl
               · rfl
              refine hK.out _ _ ⟨(blk_cell (blk_alloc BK228.out _) 0).trans rfl, (blk_cell (blk_alloc BK228.out _) 1).trans rfl, (blk_cell (blk_alloc BK222.out _) 0).trans rfl, (blk_cell (blk_alloc BK222.out _) 1).trans rfl, (World.cell?_alloc_lt _ _ _ (World.block_lt_of_cell? _ _ (hHeld.2.2.2.2.1))).trans (hHeld.2.2.2.2.1), (World.cell?_alloc_lt _ _ _ (World.block_lt_of_cell? _ _ (hHeld.2.2.2.2.2.1))).trans (hHeld.2.2.2.2.2.1), (World.cell?_alloc_lt _ _ _ (World.block_lt_of_cell? _ _ (hHeld.2.2.2.2.2.2))).trans (hHeld.2.2.2.2.2.2)⟩ (fun hHeld => ?_)
              clear hK K
              refine norm_ (a' := ?_) ?_ ?_
              rotate_left
              ·
               show Act.put _ (some 52) _ = _
               simp only [Act.put, List.setIfInBounds_toArray, List.set_cons_zero, List.set_cons_succ, i64_w, i32_w]
               rfl
              refine last_ (i := 8) (N := some 53) #[true, true, true, true, true, true, true, true, true, false, false] rfl rfl (one_of HT_.out (by kernel_rfl)) (by decide) (fun K hK => ?_)
              refine Kd.N_append_step k27 (w0 := w) w.heap.size (by rfl) (.tmp 46) (.tmp 52) 22 27 (.agg #[(.int .i64 0), (.int .i64 0), (.slice none 0 0)]) 40 rfl Try.underlying22 info27 rfl (by decide) (by omega) u229000 x229000_3 (⟨(rd_T27 l0_0 x8_3).f0, (rd_T27 l0_0 x8_3).f1, (rd_T27 l0_0 x8_3).f2⟩ : S27) [.int .i64 ((rd_T27 l0_0 x8_3).f0), .int .i64 ((rd_T27 l0_0 x8_3).f1), .slice A230_2 ((rd_T27 l0_0 x8_3).f2).length c230_2] (fun k_ => ((P0_0_ k_ ∨ P1_2_ k_) ∨ w.heap.size ≤ k_) ∧ k_ ≠ gb222 ∧ k_ ≠ gb223 ∧ k_ ≠ gb224 ∧ k_ ≠ gb228) (fun k_ => ((fun k_ => ((P0_0_ k_ ∨ P1_2_ k_) ∨ w.heap.size ≤ k_) ∧ k_ ≠ gb222 ∧ k_ ≠ gb223 ∧ k_ ≠ gb224 ∧ k_ ≠ gb228)) k_ ∧ some k_ ≠ (u229000 : Value).ownBlock) rfl rfl ?aP (fun _ hk => hk) ?aF ?aO ?aB ?aS ?aL ?_
              (case aP => exact (k27_mkF _ _ (⟨(rd_T27 l0_0 x8_3).f0, (rd_T27 l0_0 x8_3).f1, (rd_T27 l0_0 x8_3).f2⟩ : S27) (Kd.V_reads' (Kd.V_mono (ok' := (fun k_ => ((fun k_ => ((P0_0_ k_ ∨ P1_2_ k_) ∨ w.heap.size ≤ k_) ∧ k_ ≠ gb222 ∧ k_ ≠ gb223 ∧ k_ ≠ gb224 ∧ k_ ≠ gb228)) k_ ∧ some k_ ≠ (u229000 : Value).ownBlock)) (HL230_2.out) (fun k_ hk => ⟨⟨hk.1, ⟨hk.2.2.1, ⟨hk.2.2.2.1, ⟨hk.2.2.2.2.1, hk.2.2.2.2.2⟩⟩⟩⟩, hk.2.1⟩))).2.1 (Kd.V_F (Kd.V_mono (ok' := (fun k_ => ((fun k_ => ((P0_0_ k_ ∨ P1_2_ k_) ∨ w.heap.size ≤ k_) ∧ k_ ≠ gb222 ∧ k_ ≠ gb223 ∧ k_ ≠ gb224 ∧ k_ ≠ gb228)) k_ ∧ some k_ ≠ (u229000 : Value).ownBlock)) (HL230_2.out) (fun k_ hk => ⟨⟨hk.1, ⟨hk.2.2.1, ⟨hk.2.2.2.1, ⟨hk.2.2.2.2.1, hk.2.2.2.2.2⟩⟩⟩⟩, hk.2.1⟩)))))
              (case aB => exact bx_)
              (case aF => exact (fun k_ hk => ⟨(.inr (Nat.le_trans (below_size bx_) hk)), Kd.freshB (g := gb222) (o := .cells #[.slice (some ad229) l0_0.length c0_0, .int .i64 a0_1] 24 (0, 0)) (bk_ BK222.out) k_ hk, Kd.freshB (g := gb223) (o := .cells #[.int .i64 a1_0, .int .i64 a1_1, .slice A1_2 l1_2.length c1_2] 27 (0, 0)) (bk_ BK223.out) k_ hk, Kd.freshB (g := gb224) (o := .cells #[.slice none 0 0, .int .i64 0] 24 (0, 0)) (bk_ BK224.out) k_ hk, Kd.freshB (g := gb228) (o := .cells #[u229000, .int .i64 a0_1] 24 (0, 0)) (bk_ BK228.out) k_ hk⟩))
              (case aO => exact (by (with_reducible repeat (first | apply Kd.N_alloc | apply Kd.N_drewN | apply Kd.N_drew)); exact HO_229000.out))
              (case aS => exact (below_size bx_))
              (case aL => have := LMc50.out; omega)
              intro v232 w56 ho hb hg hat
              rw [← Ny231.out] at ho
              have n0_ := Aside0.mk (Kd.V_afterv (ok := (fun k_ => ((P0_0_ k_ ∨ P1_2_ k_) ∨ w.heap.size ≤ k_) ∧ k_ ≠ gb222 ∧ k_ ≠ gb223 ∧ k_ ≠ gb224 ∧ k_ ≠ gb228)) (by (with_reducible repeat (first | apply Kd.V_alloc | apply Kd.V_drewN | apply Kd.V_drew)); exact Kd.V_mono HO_223000.out (fun _ hk => ⟨⟨hk.1, ⟨hk.2.2.1, ⟨hk.2.2.2.1, ⟨hk.2.2.2.2.1, hk.2.2.2.2.2⟩⟩⟩⟩, hk.2.1⟩)) hg hat)
              have n1_ := Aside0.mk (Kd.V_afterv (ok := (fun k_ => ((P0_0_ k_ ∨ P1_2_ k_) ∨ w.heap.size ≤ k_) ∧ k_ ≠ gb222 ∧ k_ ≠ gb223 ∧ k_ ≠ gb224 ∧ k_ ≠ gb228)) (by (with_reducible repeat (first | apply Kd.V_alloc | apply Kd.V_drewN | apply Kd.V_drew)); exact Kd.V_mono HO_224002.out (fun _ hk => ⟨⟨hk.1, ⟨hk.2.2.1, ⟨hk.2.2.2.1, ⟨hk.2.2.2.2.1, hk.2.2.2.2.2⟩⟩⟩⟩, hk.2.1⟩)) hg hat)
              have n2_ := Aside0.mk (blk_grown (g := gb222) (o := .cells #[.slice (some ad229) l0_0.length c0_0, .int .i64 a0_1] 24 (0, 0)) (bk_ BK222.out) hg (Kd.N_ne HO_229000.out BK222.out (by decide)))
              have n3_ := Aside0.mk (blk_grown (g := gb223) (o := .cells #[.int .i64 a1_0, .int .i64 a1_1, .slice A1_2 l1_2.length c1_2] 27 (0, 0)) (bk_ BK223.out) hg (Kd.N_away HO_229000.out (fun _ hk => hk.2.2.1)))
              have n4_ := Aside0.mk (blk_grown (g := gb224) (o := .cells #[.slice none 0 0, .int .i64 0] 24 (0, 0)) (bk_ BK224.out) hg (Kd.N_ne HO_229000.out BK224.out (by decide)))
              have n5_ := Aside0.mk (blk_grown (g := gb228) (o := .cells #[u229000, .int .i64 a0_1] 24 (0, 0)) (bk_ BK228.out) hg (Kd.N_ne HO_229000.out BK228.out (by decide)))
              have n6_ := Aside0.mk (Kd.V_afterv (ok := (fun k_ => ((P0_0_ k_ ∨ P1_2_ k_) ∨ w.heap.size ≤ k_) ∧ k_ ≠ gb222 ∧ k_ ≠ gb223 ∧ k_ ≠ gb224 ∧ k_ ≠ gb228)) (by (with_reducible repeat (first | apply Kd.V_alloc | apply Kd.V_drewN | apply Kd.V_drew)); exact Kd.V_mono HL229_2.out (fun _ hk => ⟨⟨hk.1, ⟨hk.2.2.1, ⟨hk.2.2.2.1, ⟨hk.2.2.2.2.1, hk.2.2.2.2.2⟩⟩⟩⟩, hk.2.1⟩)) hg hat)
              have n7_ := Aside0.mk (Kd.V_afterv (ok := (fun k_ => ((P0_0_ k_ ∨ P1_2_ k_) ∨ w.heap.size ≤ k_) ∧ k_ ≠ gb222 ∧ k_ ≠ gb223 ∧ k_ ≠ gb224 ∧ k_ ≠ gb228)) (by (with_reducible repeat (first | apply Kd.V_alloc | apply Kd.V_drewN | apply Kd.V_drew)); exact Kd.V_mono HL230_2.out (fun _ hk => ⟨⟨hk.1, ⟨hk.2.2.1, ⟨hk.2.2.2.1, ⟨hk.2.2.2.2.1, hk.2.2.2.2.2⟩⟩⟩⟩, hk.2.1⟩)) hg hat)
              have n8_ := Aside0.mk (hb)
              have n9_ := Aside0.mk (ho)
              clear HO_223000
              clear HO_224002
              clear BK222
              clear BK223
              clear BK224
              clear BK228
              clear HL229_2
              clear HL230_2
              clear HB
              clear HO_229000
              have HO_223000 := n0_
              have HO_224002 := n1_
              have BK222 := n2_
              have BK223 := n3_
              have BK224 := n4_
              have BK228 := n5_
              have HL229_2 := n6_
              have HL230_2 := n7_
              have HB := n8_
              have HO233 := n9_
              clear n0_ n1_ n2_ n3_ n4_ n5_ n6_ n7_ n8_ n9_
              clear ho hb hg hat
              obtain ⟨Ao57, co57, eo57⟩ := Kd.N_slice HO233.out
              (first | subst eo57 | (injection eo57 with f1_ f2_ f3_; have f4_ := f1_.symm; have f5_ := f3_.symm; clear f1_ f2_ f3_; subst f4_; subst f5_))
              refine hK.out _ _ ?_
              clear hK K
              refine norm_ (a' := ?_) ?_ ?_
              rotate_left
              ·
               show Act.put _ (some 53) _ = _
               simp only [Act.put, List.setIfInBounds_toArray, List.set_cons_zero, List.set_cons_succ, i64_w, i32_w]
               rfl
              refine pure_ (i := 9) (N := some 54) (v := ?_) (a' := ?_) #[true, true, true, true, true, true, true, true, true, true, false] rfl rfl (any_of HT_.out (by kernel_rfl)) (fun _ _ _ h => h) (Or.inl ⟨by rfl, ?_⟩) ?_ ?_
              rotate_left
              ·
               intro w'
               go_simp
               with_reducible rfl
              rotate_left
              ·
               simp only [Act.put, List.setIfInBounds_toArray, List.set_cons_zero, List.set_cons_succ, i64_w, i32_w]
               rfl
              refine last_ (i := 10) (N := none) #[true, true, true, true, true, true, true, true, true, true, true] rfl rfl (one_of HT_.out (by kernel_rfl)) (by decide) (fun K hK => ?_)
              have hs58 : w56.cell? ⟨gb228, 0, none⟩ = some (u229000) := bcx_ BK228.out 0
              have hfs58 := blk_frozen BK228.out 0
              have hns58_0 := NB222_228.out
              have hns58_1 := NB223_228.out
              have hns58_2 := NB224_228.out
              have hms58_0 := NB228_222.out
              have hms58_1 := NB228_223.out
              have hms58_2 := NB228_224.out
              refine skip_ (w1 := ?_) (by rfl) rfl ?_ ?_
              rotate_left
              ·
               go_simp
               rfl
              refine hK.out _ _ ?_
              clear hK K
              refine done_ (done_of HT_.out (by kernel_rfl)) ?_
              try go_wp2
              go_roundg k3
              case measure => have := HJ2.out; have := HK2.out; have := HK3.out; omega
              case rel => exact ⟨(wrap64 (x8_3 + 1)), (y231), (.slice Ao57 y231.length co57), (by first | rfl | (simp; done) | (simp [*]; done)), H', ⟨by have := HJ2.out; have := HK2.out; have := HK3.out; omega⟩, ⟨by (with_reducible repeat (first | apply Kd.V_alloc | apply Kd.V_drewN | apply Kd.V_drew)); exact Kd.V_mono (Kd.V_far (p := ⟨gb228, 0, none⟩) (Kd.V_mono HO_223000.out (fun k_ hk => (⟨hk, hk.1.2.2.2.2⟩ : _ ∧ k_ ≠ gb228))) (fun _ hk => hk.2) (.slice Ao57 y231.length co57)) (fun _ hk => ⟨hk.1.1.1, ⟨hk.1.2, ⟨hk.1.1.2.1, ⟨hk.1.1.2.2.1, ⟨hk.1.1.2.2.2.1, hk.1.1.2.2.2.2⟩⟩⟩⟩⟩)⟩, ⟨by (with_reducible repeat (first | apply Kd.V_alloc | apply Kd.V_drewN | apply Kd.V_drew)); exact Kd.V_mono (Kd.V_far (p := ⟨gb228, 0, none⟩) (Kd.V_mono HO_224002.out (fun k_ hk => (⟨hk, hk.1.2.2.2.2⟩ : _ ∧ k_ ≠ gb228))) (fun _ hk => hk.2) (.slice Ao57 y231.length co57)) (fun _ hk => ⟨hk.1.1.1, ⟨hk.1.2, ⟨hk.1.1.2.1, ⟨hk.1.1.2.2.1, ⟨hk.1.1.2.2.2.1, hk.1.1.2.2.2.2⟩⟩⟩⟩⟩)⟩, ⟨by (with_reducible repeat (first | apply Kd.N_alloc | apply Kd.N_drewN | apply Kd.N_drew)); exact Kd.N_mono (Kd.N_far (p := ⟨gb228, 0, none⟩) (Kd.N_mono HO233.out (fun k_ hk => (⟨hk, hk.2.2.2.2⟩ : _ ∧ k_ ≠ gb228))) (fun _ hk => hk.2) (.slice Ao57 y231.length co57)) (fun _ hk => ⟨hk.1.1, ⟨hk.1.2.1, ⟨hk.1.2.2.1, ⟨hk.1.2.2.2.1, hk.1.2.2.2.2⟩⟩⟩⟩)⟩, ⟨by (with_reducible repeat (first | refine blk_drewN ?_ _ | refine blk_drew ?_ | refine blk_alloc ?_ _)); refine blk_far ?_ NB222_228.out _; (with_reducible repeat (first | refine blk_drewN ?_ _ | refine blk_drew ?_ | refine blk_alloc ?_ _)); exact BK222.out⟩, ⟨by (with_reducible repeat (first | refine blk_drewN ?_ _ | refine blk_drew ?_ | refine blk_alloc ?_ _)); refine blk_far ?_ NB223_228.out _; (with_reducible repeat (first | refine blk_drewN ?_ _ | refine blk_drew ?_ | refine blk_alloc ?_ _)); exact BK223.out⟩, ⟨by (with_reducible repeat (first | refine blk_drewN ?_ _ | refine blk_drew ?_ | refine blk_alloc ?_ _)); refine blk_far ?_ NB224_228.out _; (with_reducible repeat (first | refine blk_drewN ?_ _ | refine blk_drew ?_ | refine blk_alloc ?_ _)); exact BK224.out⟩, ⟨by (with_reducible repeat (first | refine blk_drewN ?_ _ | refine blk_drew ?_ | refine blk_alloc ?_ _)); refine blk_put (cs := #[u229000, .int .i64 a0_1]) ?_ 0 _ rfl; (with_reducible repeat (first | refine blk_drewN ?_ _ | refine blk_drew ?_ | refine blk_alloc ?_ _)); exact BK228.out⟩, ⟨bx_⟩⟩
             ·
              rw [if_neg c50] at H
              exact absurd H (by simp)
            ·
             rw [if_neg c49] at H
             have c49b0 : (((rd_T27 l0_0 x8_3).f0) == x7_2) = false := beq_eq_false_iff_ne.mpr c49
             have c49b1 : (((rd_T27 l0_0 x8_3).f0) != x7_2) = true := bne_iff_ne.mpr c49
             have H' := Aside0.mk H
             clear H
             have hnb59 := NB222_223.out
             have hnc59 := NB223_222.out
             have hnb60 := NB222_224.out
             have hnc60 := NB224_222.out
             have hnb61 := NB222_228.out
             have hnc61 := NB228_222.out
             have hcz62_0 : wr.cell? ⟨gb222, 0, none⟩ = some (.slice A0_0 l0_0.length c0_0) := bcx_ BK222.out 0
             have hcz62_1 : wr.cell? ⟨gb222, 1, none⟩ = some (.int .i64 a0_1) := bcx_ BK222.out 1
             have hfz62_0 := blk_frozen BK222.out 0
             have hfz62_1 := blk_frozen BK222.out 1
             have p229 : 0 ≤ (x8_3 : Int) := of_decide_eq_true (by first | (with_reducible assumption) | assumption)
             have q229 : x8_3 < (l0_0.length : Int) := of_decide_eq_true (by first | (with_reducible assumption) | assumption)
             obtain ⟨ad229, A229_2, c229_2, e229, hx229_0, hx229_1, hx229_2, hl229_2, hi229_2⟩ := at_T27 (Kd.V_reads' HO_223000.out).2.2 x8_3 p229 q229
             cases e229
             obtain ⟨ce229, hce229, hMe229, hcc229⟩ := Kd.V_get HO_223000.out z27 x8_3 p229 (by first | exact q229 | exact of_decide_eq_true (by first | (with_reducible assumption) | assumption) | (have e_ := (Kd.V_reads' HO_223000.out).1; omega))
             obtain ⟨ua229_2, uc229_2, rfl, ul229_2, ge229_2⟩ := k27_openF hMe229
             have hv229_2 := hcc229 2 _ rfl
             rw [add_field _ _ 2 (by omega)] at hv229_2
             replace hv229_2 := Option.some.inj (hv229_2.symm.trans hx229_2)
             injection hv229_2 with hva_ hvn_ hvc_
             rw [hva_] at ge229_2
             rw [hvc_] at ul229_2
             have HL229_2 := Aside0.mk (show Kd.V (Kd.int .i64) 3 _ w.heap.size _ _ ((rd_T27 l0_0 x8_3).f2) from Kd.V_mk ul229_2 ge229_2)
             clear hva_ hvn_ hvc_ ge229_2 ul229_2
             clear hcc229 hce229
             have HR229_2 := Aside0.mk hi229_2
             have HC229_2 := Aside0.mk hl229_2
             clear hi229_2 hl229_2
             replace p229 := eq_true p229
             replace q229 := eq_true q229
             go_wp2
             go_roundg k3
             case measure => have := HJ2.out; have := HK2.out; have := HK3.out; omega
             case rel => exact ⟨(wrap64 (x8_3 + 1)), (x229000_3), (u229000), (by first | rfl | (simp; done) | (simp [*]; done)), H', ⟨by have := HJ2.out; have := HK2.out; have := HK3.out; omega⟩, ⟨by (with_reducible repeat (first | apply Kd.V_alloc | apply Kd.V_drewN | apply Kd.V_drew)); exact HO_223000.out⟩, ⟨by (with_reducible repeat (first | apply Kd.V_alloc | apply Kd.V_drewN | apply Kd.V_drew)); exact HO_224002.out⟩, ⟨by (with_reducible repeat (first | apply Kd.N_alloc | apply Kd.N_drewN | apply Kd.N_drew)); exact HO_229000.out⟩, ⟨by (with_reducible repeat (first | refine blk_drewN ?_ _ | refine blk_drew ?_ | refine blk_alloc ?_ _)); exact BK222.out⟩, ⟨by (with_reducible repeat (first | refine blk_drewN ?_ _ | refine blk_drew ?_ | refine blk_alloc ?_ _)); exact BK223.out⟩, ⟨by (with_reducible repeat (first | refine blk_drewN ?_ _ | refine blk_drew ?_ | refine blk_alloc ?_ _)); exact BK224.out⟩, ⟨by (with_reducible repeat (first | refine blk_drewN ?_ _ | refine blk_drew ?_ | refine blk_alloc ?_ _)); exact BK228.out⟩, ⟨bx_⟩⟩
           ·
            rw [if_neg c48] at H
            exact absurd H (by simp)
          ·
           rw [if_neg c47] at H
           have c47b0 : decide (x8_3 < (l0_0.length : Int)) = false := decide_eq_false c47
           clear c47
           by_cases c63 : a1_0 = x7_2
           ·
            rw [if_pos c63] at H
            have c63b0 : (a1_0 == x7_2) = true := beq_iff_eq.mpr c63
            have c63b1 : (a1_0 != x7_2) = false := bne_eq_false_iff_eq.mpr c63
            clear c63
            by_cases c64 : x229000_3.length < 3518437208883
            ·
             rw [if_pos c64] at H
             have LMc64 := Aside0.mk c64
             clear c64
             obtain ⟨y234, hy234⟩ : ∃ y_ : List (S27), y_ = (x229000_3 ++ [(⟨a1_0, a1_1, l1_2⟩ : S27)]) := ⟨_, rfl⟩
             replace H : (trefoilref18_Add.l0 k3 (wrap64 (x7_2 + 1)) l0_0 a0_1 a1_0 a1_1 l1_2 y234 a0_1) = some (r1, r2, r3) := by first | (rw [hy234]; with_reducible exact H) | (have H2_ := (Option.bind_some _ _).symm.trans H; rw [hy234]; with_reducible exact H2_) | (have H2_ := (Option.bind_some _ _).symm.trans H; with_reducible exact H2_) | with_reducible exact H | (rw [hy234]; exact H) | exact H
             have Ny234 := Aside0.mk hy234
             clear hy234
             have H' := Aside0.mk H
             clear H
             have hnb65 := NB222_223.out
             have hnc65 := NB223_222.out
             have hnb66 := NB222_224.out
             have hnc66 := NB224_222.out
             have hnb67 := NB222_228.out
             have hnc67 := NB228_222.out
             have hcz68_0 : wr.cell? ⟨gb222, 0, none⟩ = some (.slice A0_0 l0_0.length c0_0) := bcx_ BK222.out 0
             have hcz68_1 : wr.cell? ⟨gb222, 1, none⟩ = some (.int .i64 a0_1) := bcx_ BK222.out 1
             have hfz68_0 := blk_frozen BK222.out 0
             have hfz68_1 := blk_frozen BK222.out 1
             have hnb69 := NB223_224.out
             have hnc69 := NB224_223.out
             have hnb70 := NB223_228.out
             have hnc70 := NB228_223.out
             have hcz71_0 : wr.cell? ⟨gb223, 0, none⟩ = some (.int .i64 a1_0) := bcx_ BK223.out 0
             have hcz71_1 : wr.cell? ⟨gb223, 1, none⟩ = some (.int .i64 a1_1) := bcx_ BK223.out 1
             have hcz71_2 : wr.cell? ⟨gb223, 2, none⟩ = some (.slice A1_2 l1_2.length c1_2) := bcx_ BK223.out 2
             have hfz71_0 := blk_frozen BK223.out 0
             have hfz71_1 := blk_frozen BK223.out 1
             have hfz71_2 := blk_frozen BK223.out 2
             have hnb72 := NB228_224.out
             have hnc72 := NB224_228.out
             have hcz73_0 : wr.cell? ⟨gb228, 0, none⟩ = some (u229000) := bcx_ BK228.out 0
             have hcz73_1 : wr.cell? ⟨gb228, 1, none⟩ = some (.int .i64 a0_1) := bcx_ BK228.out 1
             have hfz73_0 := blk_frozen BK228.out 0
             have hfz73_1 := blk_frozen BK228.out 1
             go_wp2_with (first | ((with_reducible refine gate_builtin (b := .append) (xs := #[.tmp 60, .tmp 62]) rfl ?_); at_builtin; refine Kd.N_append k27 (w0 := w) w.heap.size rfl (.tmp 60) (.tmp 62) 22 27 (.agg #[(.int .i64 0), (.int .i64 0), (.slice none 0 0)]) 40 rfl Try.underlying22 info27 rfl (by decide) (by omega) u229000 x229000_3 (⟨a1_0, a1_1, l1_2⟩ : S27) [.int .i64 a1_0, .int .i64 a1_1, .slice A1_2 l1_2.length c1_2] (fun k_ => ((P0_0_ k_ ∨ P1_2_ k_) ∨ w.heap.size ≤ k_) ∧ k_ ≠ gb222 ∧ k_ ≠ gb223 ∧ k_ ≠ gb224 ∧ k_ ≠ gb228) (fun k_ => ((fun k_ => ((P0_0_ k_ ∨ P1_2_ k_) ∨ w.heap.size ≤ k_) ∧ k_ ≠ gb222 ∧ k_ ≠ gb223 ∧ k_ ≠ gb224 ∧ k_ ≠ gb228)) k_ ∧ some k_ ≠ (u229000 : Value).ownBlock) rfl rfl ?aP (fun _ hk => hk) ?aF ?aO ?aB ?aS ?aL ?_; (case aP => exact (k27_mkF _ _ (⟨a1_0, a1_1, l1_2⟩ : S27) (Kd.V_reads' (Kd.V_mono (ok' := (fun k_ => ((fun k_ => ((P0_0_ k_ ∨ P1_2_ k_) ∨ w.heap.size ≤ k_) ∧ k_ ≠ gb222 ∧ k_ ≠ gb223 ∧ k_ ≠ gb224 ∧ k_ ≠ gb228)) k_ ∧ some k_ ≠ (u229000 : Value).ownBlock)) (HO_224002.out) (fun k_ hk => ⟨⟨hk.1, ⟨hk.2.2.1, ⟨hk.2.2.2.1, ⟨hk.2.2.2.2.1, hk.2.2.2.2.2⟩⟩⟩⟩, hk.2.1⟩))).2.1 (Kd.V_F (Kd.V_mono (ok' := (fun k_ => ((fun k_ => ((P0_0_ k_ ∨ P1_2_ k_) ∨ w.heap.size ≤ k_) ∧ k_ ≠ gb222 ∧ k_ ≠ gb223 ∧ k_ ≠ gb224 ∧ k_ ≠ gb228)) k_ ∧ some k_ ≠ (u229000 : Value).ownBlock)) (HO_224002.out) (fun k_ hk => ⟨⟨hk.1, ⟨hk.2.2.1, ⟨hk.2.2.2.1, ⟨hk.2.2.2.2.1, hk.2.2.2.2.2⟩⟩⟩⟩, hk.2.1⟩))))); (case aB => exact bx_); (case aF => exact (fun k_ hk => ⟨(.inr (Nat.le_trans (below_size bx_) hk)), Kd.freshB (g := gb222) (o := .cells #[.slice A0_0 l0_0.length c0_0, .int .i64 a0_1] 24 (0, 0)) (bk_ BK222.out) k_ hk, Kd.freshB (g := gb223) (o := .cells #[.int .i64 a1_0, .int .i64 a1_1, .slice A1_2 l1_2.length c1_2] 27 (0, 0)) (bk_ BK223.out) k_ hk, Kd.freshB (g := gb224) (o := .cells #[.slice none 0 0, .int .i64 0] 24 (0, 0)) (bk_ BK224.out) k_ hk, Kd.freshB (g := gb228) (o := .cells #[u229000, .int .i64 a0_1] 24 (0, 0)) (bk_ BK228.out) k_ hk⟩)); (case aO => exact (by (with_reducible repeat (first | apply Kd.N_alloc | apply Kd.N_drewN | apply Kd.N_drew)); exact HO_229000.out)); (case aS => exact (below_size bx_)); (case aL => have := LMc64.out; omega); intro v235 w74 ho hb hg hat; rw [← Ny234.out] at ho; have n0_ := Aside0.mk (Kd.V_afterv (ok := (fun k_ => ((P0_0_ k_ ∨ P1_2_ k_) ∨ w.heap.size ≤ k_) ∧ k_ ≠ gb222 ∧ k_ ≠ gb223 ∧ k_ ≠ gb224 ∧ k_ ≠ gb228)) (by (with_reducible repeat (first | apply Kd.V_alloc | apply Kd.V_drewN | apply Kd.V_drew)); exact Kd.V_mono HO_223000.out (fun _ hk => ⟨⟨hk.1, ⟨hk.2.2.1, ⟨hk.2.2.2.1, ⟨hk.2.2.2.2.1, hk.2.2.2.2.2⟩⟩⟩⟩, hk.2.1⟩)) hg hat); have n1_ := Aside0.mk (Kd.V_afterv (ok := (fun k_ => ((P0_0_ k_ ∨ P1_2_ k_) ∨ w.heap.size ≤ k_) ∧ k_ ≠ gb222 ∧ k_ ≠ gb223 ∧ k_ ≠ gb224 ∧ k_ ≠ gb228)) (by (with_reducible repeat (first | apply Kd.V_alloc | apply Kd.V_drewN | apply Kd.V_drew)); exact Kd.V_mono HO_224002.out (fun _ hk => ⟨⟨hk.1, ⟨hk.2.2.1, ⟨hk.2.2.2.1, ⟨hk.2.2.2.2.1, hk.2.2.2.2.2⟩⟩⟩⟩, hk.2.1⟩)) hg hat); have n2_ := Aside0.mk (blk_grown (g := gb222) (o := .cells #[.slice A0_0 l0_0.length c0_0, .int .i64 a0_1] 24 (0, 0)) (bk_ BK222.out) hg (Kd.N_ne HO_229000.out BK222.out (by decide))); have n3_ := Aside0.mk (blk_grown (g := gb223) (o := .cells #[.int .i64 a1_0, .int .i64 a1_1, .slice A1_2 l1_2.length c1_2] 27 (0, 0)) (bk_ BK223.out) hg (Kd.N_away HO_229000.out (fun _ hk => hk.2.2.1))); have n4_ := Aside0.mk (blk_grown (g := gb224) (o := .cells #[.slice none 0 0, .int .i64 0] 24 (0, 0)) (bk_ BK224.out) hg (Kd.N_ne HO_229000.out BK224.out (by decide))); have n5_ := Aside0.mk (blk_grown (g := gb228) (o := .cells #[u229000, .int .i64 a0_1] 24 (0, 0)) (bk_ BK228.out) hg (Kd.N_ne HO_229000.out BK228.out (by decide))); have n6_ := Aside0.mk (hb); have n7_ := Aside0.mk (ho); clear HO_223000; clear HO_224002; clear BK222; clear BK223; clear BK224; clear BK228; clear HB; clear HO_229000; have HO_223000 := n0_; have HO_224002 := n1_; have BK222 := n2_; have BK223 := n3_; have BK224 := n4_; have BK228 := n5_; have HB := n6_; have HO236 := n7_; clear n0_ n1_ n2_ n3_ n4_ n5_ n6_ n7_; clear ho hb hg hat; obtain ⟨Ao75, co75, eo75⟩ := Kd.N_slice HO236.out; subst eo75; have hcz76_0 : w74.cell? ⟨gb228, 0, none⟩ = some (u229000) := bcx_ BK228.out 0; have hcz76_1 : w74.cell? ⟨gb228, 1, none⟩ = some (.int .i64 a0_1) := bcx_ BK228.out 1; have hfz76_0 := blk_frozen BK228.out 0; have hfz76_1 := blk_frozen BK228.out 1))
             go_roundg k3
             case measure => have := HJ2.out; have := HK2.out; have := HK3.out; omega
             case rel => exact ⟨(wrap64 (x7_2 + 1)), (y234), (.slice Ao75 y234.length co75), (by first | rfl | (simp; done) | (simp [*]; done)), H', ⟨by have := HJ2.out; have := HK2.out; have := HK3.out; omega⟩, ⟨by (with_reducible repeat (first | apply Kd.V_alloc | apply Kd.V_drewN | apply Kd.V_drew)); exact Kd.V_mono (Kd.V_far (p := ⟨gb228, 0, none⟩) (Kd.V_mono HO_223000.out (fun k_ hk => (⟨hk, hk.1.2.2.2.2⟩ : _ ∧ k_ ≠ gb228))) (fun _ hk => hk.2) (.slice Ao75 y234.length co75)) (fun _ hk => ⟨hk.1.1.1, ⟨hk.1.2, ⟨hk.1.1.2.1, ⟨hk.1.1.2.2.1, ⟨hk.1.1.2.2.2.1, hk.1.1.2.2.2.2⟩⟩⟩⟩⟩)⟩, ⟨by (with_reducible repeat (first | apply Kd.V_alloc | apply Kd.V_drewN | apply Kd.V_drew)); exact Kd.V_mono (Kd.V_far (p := ⟨gb228, 0, none⟩) (Kd.V_mono HO_224002.out (fun k_ hk => (⟨hk, hk.1.2.2.2.2⟩ : _ ∧ k_ ≠ gb228))) (fun _ hk => hk.2) (.slice Ao75 y234.length co75)) (fun _ hk => ⟨hk.1.1.1, ⟨hk.1.2, ⟨hk.1.1.2.1, ⟨hk.1.1.2.2.1, ⟨hk.1.1.2.2.2.1, hk.1.1.2.2.2.2⟩⟩⟩⟩⟩)⟩, ⟨by (with_reducible repeat (first | apply Kd.N_alloc | apply Kd.N_drewN | apply Kd.N_drew)); exact Kd.N_mono (Kd.N_far (p := ⟨gb228, 0, none⟩) (Kd.N_mono HO236.out (fun k_ hk => (⟨hk, hk.2.2.2.2⟩ : _ ∧ k_ ≠ gb228))) (fun _ hk => hk.2) (.slice Ao75 y234.length co75)) (fun _ hk => ⟨hk.1.1, ⟨hk.1.2.1, ⟨hk.1.2.2.1, ⟨hk.1.2.2.2.1, hk.1.2.2.2.2⟩⟩⟩⟩)⟩, ⟨by (with_reducible repeat (first | refine blk_drewN ?_ _ | refine blk_drew ?_ | refine blk_alloc ?_ _)); refine blk_far ?_ NB222_228.out _; (with_reducible repeat (first | refine blk_drewN ?_ _ | refine blk_drew ?_ | refine blk_alloc ?_ _)); exact BK222.out⟩, ⟨by (with_reducible repeat (first | refine blk_drewN ?_ _ | refine blk_drew ?_ | refine blk_alloc ?_ _)); refine blk_far ?_ NB223_228.out _; (with_reducible repeat (first | refine blk_drewN ?_ _ | refine blk_drew ?_ | refine blk_alloc ?_ _)); exact BK223.out⟩, ⟨by (with_reducible repeat (first | refine blk_drewN ?_ _ | refine blk_drew ?_ | refine blk_alloc ?_ _)); refine blk_far ?_ NB224_228.out _; (with_reducible repeat (first | refine blk_drewN ?_ _ | refine blk_drew ?_ | refine blk_alloc ?_ _)); exact BK224.out⟩, ⟨by (with_reducible repeat (first | refine blk_drewN ?_ _ | refine blk_drew ?_ | refine blk_alloc ?_ _)); refine blk_put (cs := #[u229000, .int .i64 a0_1]) ?_ 0 _ rfl; (with_reducible repeat (first | refine blk_drewN ?_ _ | refine blk_drew ?_ | refine blk_alloc ?_ _)); exact BK228.out⟩, ⟨bx_⟩⟩
            ·
             rw [if_neg c64] at H
             exact absurd H (by simp)
           ·
            rw [if_neg c63] at H
            have c63b0 : (a1_0 == x7_2) = false := beq_eq_false_iff_ne.mpr c63
            have c63b1 : (a1_0 != x7_2) = true := bne_iff_ne.mpr c63
            have H' := Aside0.mk H
            clear H
            have hnb77 := NB222_223.out
            have hnc77 := NB223_222.out
            have hnb78 := NB222_224.out
            have hnc78 := NB224_222.out
            have hnb79 := NB222_228.out
            have hnc79 := NB228_222.out
            have hcz80_0 : wr.cell? ⟨gb222, 0, none⟩ = some (.slice A0_0 l0_0.length c0_0) := bcx_ BK222.out 0
            have hcz80_1 : wr.cell? ⟨gb222, 1, none⟩ = some (.int .i64 a0_1) := bcx_ BK222.out 1
            have hfz80_0 := blk_frozen BK222.out 0
            have hfz80_1 := blk_frozen BK222.out 1
            have hnb81 := NB223_224.out
            have hnc81 := NB224_223.out
            have hnb82 := NB223_228.out
            have hnc82 := NB228_223.out
            have hcz83_0 : wr.cell? ⟨gb223, 0, none⟩ = some (.int .i64 a1_0) := bcx_ BK223.out 0
            have hcz83_1 : wr.cell? ⟨gb223, 1, none⟩ = some (.int .i64 a1_1) := bcx_ BK223.out 1
            have hcz83_2 : wr.cell? ⟨gb223, 2, none⟩ = some (.slice A1_2 l1_2.length c1_2) := bcx_ BK223.out 2
            have hfz83_0 := blk_frozen BK223.out 0
            have hfz83_1 := blk_frozen BK223.out 1
            have hfz83_2 := blk_frozen BK223.out 2
            go_wp2
            go_roundg k3
            case measure => have := HJ2.out; have := HK2.out; have := HK3.out; omega
            case rel => exact ⟨(wrap64 (x7_2 + 1)), (x229000_3), (u229000), (by first | rfl | (simp; done) | (simp [*]; done)), H', ⟨by have := HJ2.out; have := HK2.out; have := HK3.out; omega⟩, ⟨by (with_reducible repeat (first | apply Kd.V_alloc | apply Kd.V_drewN | apply Kd.V_drew)); exact HO_223000.out⟩, ⟨by (with_reducible repeat (first | apply Kd.V_alloc | apply Kd.V_drewN | apply Kd.V_drew)); exact HO_224002.out⟩, ⟨by (with_reducible repeat (first | apply Kd.N_alloc | apply Kd.N_drewN | apply Kd.N_drew)); exact HO_229000.out⟩, ⟨by (with_reducible repeat (first | refine blk_drewN ?_ _ | refine blk_drew ?_ | refine blk_alloc ?_ _)); exact BK222.out⟩, ⟨by (with_reducible repeat (first | refine blk_drewN ?_ _ | refine blk_drew ?_ | refine blk_alloc ?_ _)); exact BK223.out⟩, ⟨by (with_reducible repeat (first | refine blk_drewN ?_ _ | refine blk_drew ?_ | refine blk_alloc ?_ _)); exact BK224.out⟩, ⟨by (with_reducible repeat (first | refine blk_drewN ?_ _ | refine blk_drew ?_ | refine blk_alloc ?_ _)); exact BK228.out⟩, ⟨bx_⟩⟩
       ·
        rw [if_neg c46] at H
        have c46b0 : decide (x7_2 < 8) = false := decide_eq_false c46
        clear c46
        simp only [Option.some.injEq, Prod.mk.injEq] at H
        obtain ⟨rfl, rfl, rfl⟩ := H
        have hnb84 := NB228_222.out
        have hnc84 := NB222_228.out
        have hnb85 := NB228_223.out
        have hnc85 := NB223_228.out
        have hnb86 := NB228_224.out
        have hnc86 := NB224_228.out
        have hcz87_0 : wr.cell? ⟨gb228, 0, none⟩ = some (u229000) := bcx_ BK228.out 0
        have hcz87_1 : wr.cell? ⟨gb228, 1, none⟩ = some (.int .i64 a0_1) := bcx_ BK228.out 1
        have hfz87_0 := blk_frozen BK228.out 0
        have hfz87_1 := blk_frozen BK228.out 1
        obtain ⟨Ao88, co88, eo88⟩ := Kd.N_slice HO_229000.out
        subst eo88
        have hnb89 := NB224_222.out
        have hnc89 := NB222_224.out
        have hnb90 := NB224_223.out
        have hnc90 := NB223_224.out
        have hcz91_0 : wr.cell? ⟨gb224, 0, none⟩ = some (.slice none 0 0) := bcx_ BK224.out 0
        have hcz91_1 : wr.cell? ⟨gb224, 1, none⟩ = some (.int .i64 0) := bcx_ BK224.out 1
        have hfz91_0 := blk_frozen BK224.out 0
        have hfz91_1 := blk_frozen BK224.out 1
        go_wp2
        refine bodyPost_ret (results_ct rfl _ _ gb224 24 #[.slice Ao88 x229000_2.length co88, .int .i64 a0_1] (0, 0) _ rfl (by (with_reducible repeat (first | refine blk_drewN ?_ _ | refine blk_drew ?_ | refine blk_alloc ?_ _)); refine blk_put (cs := #[.slice Ao88 x229000_2.length co88, .int .i64 0]) ?_ 1 _ rfl; (with_reducible repeat (first | refine blk_drewN ?_ _ | refine blk_drew ?_ | refine blk_alloc ?_ _)); refine blk_put (cs := #[.slice none 0 0, .int .i64 0]) ?_ 0 _ rfl; (with_reducible repeat (first | refine blk_drewN ?_ _ | refine blk_drew ?_ | refine blk_alloc ?_ _)); exact BK224.out) Try.underlying24 rfl (by kernel_rfl)) rfl ?_
        exact ⟨_, by first | rfl | (simp [errW_none, errW_some] <;> rfl) | (simp [*, errW_none, errW_some] <;> rfl), by (with_reducible repeat (first | apply Kd.N_alloc | apply Kd.N_drewN | apply Kd.N_drew)); exact Kd.N_mono (Kd.N_far (p := ⟨gb224, 1, none⟩) (Kd.N_far (p := ⟨gb224, 0, none⟩) (Kd.N_mono HO_229000.out (fun k_ hk => (⟨hk, hk.2.2.2.1⟩ : _ ∧ k_ ≠ gb224))) (fun _ hk => hk.2) (.slice Ao88 x229000_2.length co88)) (fun _ hk => hk.2) (.int .i64 a0_1)) (fun _ hk => hk.1.1), bx_⟩
end Go.Proofs.Yteodhffgnkdcfaa.Q
