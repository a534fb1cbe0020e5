import Derived.Test.YteodhffgnkdcfaaDoorQx0
import Derived.Test.YteodhffgnkdcfaaDoorQx2
import Derived.Test.YteodhffgnkdcfaaDoorQx4
namespace Go.Proofs.YteodhffgnkdcfaaDoor.Q
open Go.RowKit Go.Proofs.YteodhffgnkdcfaaDoorW.PrintWords Go.Proofs.YteodhffgnkdcfaaDoorW.PrintLast Go.Proofs.YteodhffgnkdcfaaDoorW.PrintMore
attribute [local go_sem] max2_int min2_int max_two min_two max_three min_three max_four min_four
set_option linter.unusedVariables false
set_option linter.unusedSimpArgs false
attribute [local go_sem high] eqA82
def shapeV (s : S29) : Value := .agg #[.int .i64 s.f0, .int .i64 s.f1, .int .i64 s.f2, .int .i64 s.f3, .int .i64 s.f4]
set_option maxHeartbeats 1000000 in
theorem of_heavy (a b c d e : Int) (w : World) (h : d < a) : Calls Tryd.prog 48 #[.agg #[.int .i64 a, .int .i64 b, .int .i64 c, .int .i64 d, .int .i64 e]] w fun en w' => en = .returned (.iface 93 (.agg #[.int .i64 a, .int .i64 b, .int .i64 c, .int .i64 d, .int .i64 e])) ∧ Below w.heap.size w w' := by
  have h0 : decide (d < a) = true := decide_eq_true h
  go_enter Tryd.func48, Tryd.ntmps48
  go_wp2
  go_ret
  exact ⟨rfl, below_alloc (Below.refl _ _) _⟩
set_option maxHeartbeats 1000000 in
theorem of_light (a b c d e : Int) (w : World) (h : ¬ d < a) : Calls Tryd.prog 48 #[.agg #[.int .i64 a, .int .i64 b, .int .i64 c, .int .i64 d, .int .i64 e]] w fun en w' => en = .returned (.iface 88 (.agg #[.int .i64 a, .int .i64 b, .int .i64 c, .int .i64 d, .int .i64 e])) ∧ Below w.heap.size w w' := by
  have h0 : decide (d < a) = false := decide_eq_false h
  go_enter Tryd.func48, Tryd.ntmps48
  go_wp2
  go_ret
  exact ⟨rfl, below_alloc (Below.refl _ _) _⟩
theorem meth_heavy (a b c d e : Int) (w : World) : (method 221 93 (.agg #[.int .i64 a, .int .i64 b, .int .i64 c, .int .i64 d, .int .i64 e]) "trefoil/class.need").run Tryd.prog w = .ok (77, .agg #[.int .i64 a, .int .i64 b, .int .i64 c, .int .i64 d, .int .i64 e]) w := by kernel_rfl
theorem meth_light (a b c d e : Int) (w : World) : (method 221 88 (.agg #[.int .i64 a, .int .i64 b, .int .i64 c, .int .i64 d, .int .i64 e]) "trefoil/class.need").run Tryd.prog w = .ok (49, .agg #[.int .i64 a, .int .i64 b, .int .i64 c, .int .i64 d, .int .i64 e]) w := by kernel_rfl
theorem e_ret_bool_ {a b : Bool} (h : a = b) : Ending.returned (.bool a) = .returned (.bool b) := by rw [h]
theorem box_at {W w1 : World} {g : Nat} {cs : Array Value} {t : TypeId} (hb : Below W.heap.size W w1) (h : W.heap[g]? = some (.cells cs t (0, 0))) : w1.heap[g]? = some (.cells cs t (0, 0)) := (hb.block g (blk_lt h)).trans h
theorem cells5 {W : World} {g : Nat} {a b c d e : Value} {t : TypeId} (h : W.heap[g]? = some (.cells #[a, b, c, d, e] t (0, 0))) : W.cell? ⟨g, 0, none⟩ = some a ∧ W.cell? ⟨g, 1, none⟩ = some b ∧ W.cell? ⟨g, 2, none⟩ = some c ∧ W.cell? ⟨g, 3, none⟩ = some d ∧ W.cell? ⟨g, 4, none⟩ = some e :=
  ⟨(blk_cell h 0).trans rfl, (blk_cell h 1).trans rfl, (blk_cell h 2).trans rfl, (blk_cell h 3).trans rfl, (blk_cell h 4).trans rfl⟩
/-! ### class_Heavy: function 30 -/
def class_Heavy.f (a0_0 a0_1 a0_2 a0_3 a0_4 : Int) : Option Bool :=
  (class_Check.f a0_0 a0_1 a0_2 a0_3 a0_4).bind fun c => if c = 0 then (if a0_3 < a0_0 then (class_heavy_need.f a0_0 a0_1 a0_2 a0_3 a0_4).bind fun r => some (!(decide (r.1 = 1) && decide (r.2 = 0))) else some false) else some false
set_option maxHeartbeats 4000000 in
set_option maxRecDepth 100000 in
theorem class_Heavy.calls (a0_0 : Int) (a0_1 : Int) (a0_2 : Int) (a0_3 : Int) (a0_4 : Int) (r : Bool) (w : World) (h : class_Heavy.f a0_0 a0_1 a0_2 a0_3 a0_4 = some r) (hTab : TabOK w := by first | exact hTab | exact TabOK.below hTab HB.out | exact TabOK.drewN hTab _ | exact TabOK.below hTab (by repeat (first | (with_reducible first | exact HB.out | apply below_alloc | apply pw_below_drewN | apply below_drew1 | refine below_set ?_ (Aside0.out (by assumption))) | exact HB.out)) | (repeat (first | exact hTab | apply TabOK.drewN | apply TabOK.drew | apply TabOK.alloc); done)) :
    Calls Tryd.prog 30 #[.agg #[.int .i64 a0_0, .int .i64 a0_1, .int .i64 a0_2, .int .i64 a0_3, .int .i64 a0_4]] w fun e w' => e = .returned (.bool r) ∧ Below w.heap.size w w' := by
  unfold class_Heavy.f at h
  obtain ⟨c, hc, h⟩ := Option.bind_eq_some_iff.mp h
  have C1 := fun W hT => Lib.hid (class_Check.calls a0_0 a0_1 a0_2 a0_3 a0_4 c W hc hT)
  clear hc
  by_cases h0 : c = 0
  · rw [if_pos h0] at h
    have h0b : (c == 0) = true := by simp [h0]
    clear h0
    by_cases hd : a0_3 < a0_0
    · rw [if_pos hd] at h
      obtain ⟨⟨r1, r2⟩, hn, h⟩ := Option.bind_eq_some_iff.mp h
      have C2 := fun W => Lib.hid (of_heavy a0_0 a0_1 a0_2 a0_3 a0_4 W hd)
      have C3 := fun W => Lib.hid (class_heavy_need.calls a0_0 a0_1 a0_2 a0_3 a0_4 r1 r2 W hn)
      have C4 := fun W => Lib.hid (class_light_need.calls a0_0 a0_1 a0_2 a0_3 a0_4 1 0 W rfl)
      have H := Lib.hid h
      clear h hn hd
      have hm := meth_heavy a0_0 a0_1 a0_2 a0_3 a0_4
      go_enter Tryd.func30, Tryd.ntmps30
      go_wp2
      go_region_with (first | (go_at_call 29; refine (C1 _ (hTab.alloc _).drew).out.mono ?_; rintro e w1 ⟨rfl, hb⟩; have hk := box_at hb (blk_new w _); have HB := Aside0.mk (below_step (below_drew (below_alloc (Below.refl _ _) _)) hb); obtain ⟨k0, k1, k2, k3, k4⟩ := cells5 hk; clear hb) | (go_at_call 48; refine (C2 _).out.mono ?_; rintro e w2 ⟨rfl, hb⟩; have n0 := box_at hb hk; have n1 := Aside0.mk (below_step HB.out hb); clear hk HB k0 k1 k2 k3 k4 hb; have hk := n0; have HB := n1; clear n0 n1; obtain ⟨k0, k1, k2, k3, k4⟩ := cells5 hk) | (go_at_call 77; refine (C3 _).out.mono ?_; rintro e w3 ⟨rfl, hb⟩; have n0 := box_at hb hk; have n1 := Aside0.mk (below_step HB.out hb); clear hk HB k0 k1 k2 k3 k4 hb; have hk := n0; have HB := n1; clear n0 n1; obtain ⟨k0, k1, k2, k3, k4⟩ := cells5 hk) | (go_at_call 49; refine (C4 _).out.mono ?_; rintro e w4 ⟨rfl, hb⟩; have n1 := Aside0.mk (below_step HB.out hb); clear hk HB k0 k1 k2 k3 k4 hb; have HB := n1; clear n1))
      all_goals go_wp2
      all_goals go_ret
      all_goals refine ⟨e_ret_bool_ ?_, by repeat (first | (with_reducible first | exact HB.out | apply below_drew) | exact HB.out)⟩
      all_goals rw [← Option.some.inj H.out]
      all_goals by_cases e1 : r1 = 1 <;> by_cases e2 : r2 = 0 <;> simp [e1, e2]
    · rw [if_neg hd] at h
      obtain rfl := Option.some.inj h
      have C2 := fun W => Lib.hid (of_light a0_0 a0_1 a0_2 a0_3 a0_4 W hd)
      have C4 := fun W => Lib.hid (class_light_need.calls a0_0 a0_1 a0_2 a0_3 a0_4 1 0 W rfl)
      clear h hd
      have hm := meth_light a0_0 a0_1 a0_2 a0_3 a0_4
      go_enter Tryd.func30, Tryd.ntmps30
      go_wp2
      go_region_with (first | (go_at_call 29; refine (C1 _ (hTab.alloc _).drew).out.mono ?_; rintro e w1 ⟨rfl, hb⟩; have hk := box_at hb (blk_new w _); have HB := Aside0.mk (below_step (below_drew (below_alloc (Below.refl _ _) _)) hb); obtain ⟨k0, k1, k2, k3, k4⟩ := cells5 hk; clear hb) | (go_at_call 48; refine (C2 _).out.mono ?_; rintro e w2 ⟨rfl, hb⟩; have n0 := box_at hb hk; have n1 := Aside0.mk (below_step HB.out hb); clear hk HB k0 k1 k2 k3 k4 hb; have hk := n0; have HB := n1; clear n0 n1; obtain ⟨k0, k1, k2, k3, k4⟩ := cells5 hk) | (go_at_call 49; refine (C4 _).out.mono ?_; rintro e w4 ⟨rfl, hb⟩; have n0 := box_at hb hk; have n1 := Aside0.mk (below_step HB.out hb); clear hk HB k0 k1 k2 k3 k4 hb; have hk := n0; have HB := n1; clear n0 n1; obtain ⟨k0, k1, k2, k3, k4⟩ := cells5 hk))
      all_goals go_wp2
      all_goals go_ret
      all_goals exact ⟨rfl, by repeat (first | (with_reducible first | exact HB.out | apply below_drew) | exact HB.out)⟩
  · rw [if_neg h0] at h
    obtain rfl := Option.some.inj h
    have h0b : (c == 0) = false := by simp [h0]
    clear h0 h
    go_enter Tryd.func30, Tryd.ntmps30
    go_wp2
    go_region_with (first | (go_at_call 29; refine (C1 _ (hTab.alloc _).drew).out.mono ?_; rintro e w1 ⟨rfl, hb⟩; have hk := box_at hb (blk_new w _); have HB := Aside0.mk (below_step (below_drew (below_alloc (Below.refl _ _) _)) hb); obtain ⟨k0, k1, k2, k3, k4⟩ := cells5 hk; clear hb))
    all_goals go_wp2
    all_goals go_ret
    all_goals exact ⟨rfl, by repeat (first | (with_reducible first | exact HB.out | apply below_drew) | exact HB.out)⟩
/-! ### edf_Check_1: function 28 -/
def edf_Check_1.f (a0_0 : Int) (a0_1 : Int) (a0_2 : Int) (a0_3 : Int) (a0_4 : Int) : Option (Bool) := (class_Check.f a0_0 a0_1 a0_2 a0_3 a0_4).bind fun t126 => (if t126 = 0 then ((class_Heavy.f a0_0 a0_1 a0_2 a0_3 a0_4).bind fun t127 => (some t127)) else (some true))
set_option maxHeartbeats 8000000 in
set_option maxRecDepth 100000 in
theorem edf_Check_1.calls (a0_0 : Int) (a0_1 : Int) (a0_2 : Int) (a0_3 : Int) (a0_4 : Int) (r : Bool) (w : World) (h : edf_Check_1.f a0_0 a0_1 a0_2 a0_3 a0_4 = some r) (hTab : TabOK w := by first | exact hTab | exact TabOK.below hTab HB.out | exact TabOK.drewN hTab _ | exact TabOK.below hTab (by repeat (first | (with_reducible first | exact HB.out | apply below_alloc | apply pw_below_drewN | apply below_drew1 | refine below_set ?_ (Aside0.out (by assumption))) | exact HB.out)) | (repeat (first | exact hTab | apply TabOK.drewN | apply TabOK.drew | apply TabOK.alloc); done)) :
    Calls Tryd.prog 28 #[.agg #[.int .i64 a0_0, .int .i64 a0_1, .int .i64 a0_2, .int .i64 a0_3, .int .i64 a0_4]] w fun e w' => e = .returned (.bool r) ∧ Below w.heap.size w w' := by
  have hu29 := Tryd.underlying29
  have HB := Aside0.mk (Below.refl w.heap.size w)
  have H : ((class_Check.f a0_0 a0_1 a0_2 a0_3 a0_4).bind fun t126 => (if t126 = 0 then ((class_Heavy.f a0_0 a0_1 a0_2 a0_3 a0_4).bind fun t127 => (some t127)) else (some true))) = some r := h
  clear h
  replace H := Option.bind_eq_some_iff.mp H
  obtain ⟨t126, A20, H⟩ := H
  replace H : (if t126 = 0 then ((class_Heavy.f a0_0 a0_1 a0_2 a0_3 a0_4).bind fun t127 => (some t127)) else (some true)) = some r := H
  have A2 := Aside0.mk A20
  clear A20
  by_cases c3 : t126 = 0
  · rw [if_pos c3] at H
    have c3b0 : (t126 == 0) = true := beq_iff_eq.mpr c3
    have c3b1 : (t126 != 0) = false := bne_eq_false_iff_eq.mpr c3
    clear c3
    replace H := Option.bind_eq_some_iff.mp H
    obtain ⟨t127, A40, H⟩ := H
    replace H : (some t127) = some r := H
    have A4 := Aside0.mk A40
    clear A40
    obtain rfl := Option.some.inj H
    go_enter Tryd.func28, Tryd.ntmps28
    go_wp2_with (first | ((with_reducible refine gate_dst (N := 1) rfl ?_); refine box_event ?hg (N := 1) ?hd (cs := #[.int .i64 a0_0, .int .i64 a0_1, .int .i64 a0_2, .int .i64 a0_3, .int .i64 a0_4]) (t := 29) ?hr ?_; (case hd => rfl); (case hg => rfl); (case hr => first | (go_simp; done) | (go_simp; rfl)); intro gb125 hg w5 hbox hb; have n0_ := Aside0.mk (below_step (by repeat (first | (with_reducible first | exact HB.out | apply below_alloc | apply pw_below_drewN | apply below_drew1) | exact HB.out)) hb); have n1_ := Aside0.mk (hbox); have n2_ := Aside0.mk ((by rw [hg]; exact (below_size (by repeat (first | (with_reducible first | exact HB.out | apply below_alloc | apply pw_below_drewN | apply below_drew1) | exact HB.out))) : w.heap.size ≤ gb125)); have n3_ := Aside0.mk ((by rw [hg]; exact (below_size (by repeat (first | (with_reducible first | exact HB.out | apply below_alloc | apply pw_below_drewN | apply below_drew1) | exact HB.out))) : w.heap.size ≤ gb125)); clear HB; have HB := n0_; have BK125 := n1_; have GW125 := n2_; have GE125 := n3_; clear n0_ n1_ n2_ n3_; clear hb hbox hg; have hcz6_0 : w5.cell? ⟨gb125, 0, none⟩ = some (.int .i64 a0_0) := (blk_cell BK125.out 0).trans rfl; have hcz6_1 : w5.cell? ⟨gb125, 1, none⟩ = some (.int .i64 a0_1) := (blk_cell BK125.out 1).trans rfl; have hcz6_2 : w5.cell? ⟨gb125, 2, none⟩ = some (.int .i64 a0_2) := (blk_cell BK125.out 2).trans rfl; have hcz6_3 : w5.cell? ⟨gb125, 3, none⟩ = some (.int .i64 a0_3) := (blk_cell BK125.out 3).trans rfl; have hcz6_4 : w5.cell? ⟨gb125, 4, none⟩ = some (.int .i64 a0_4) := (blk_cell BK125.out 4).trans rfl; have hfz6_0 := blk_frozen BK125.out 0; have hfz6_1 := blk_frozen BK125.out 1; have hfz6_2 := blk_frozen BK125.out 2; have hfz6_3 := blk_frozen BK125.out 3; have hfz6_4 := blk_frozen BK125.out 4) | ((with_reducible refine gate_callee (f := 29) rfl ?_); refine goesL_ (some 4) rfl rfl Tryd.func29 (by kernel_rfl) rfl #[.agg #[.int .i64 a0_0, .int .i64 a0_1, .int .i64 a0_2, .int .i64 a0_3, .int .i64 a0_4]] rfl (by (try simp only [List.map_toArray, List.map_cons, List.map_nil]); first | done | rfl | (simp only [List.length_drop, List.length_take]; rfl)) ?_; (with_reducible refine (class_Check.calls a0_0 a0_1 a0_2 a0_3 a0_4 t126 _ A2.out).mono ?_); rintro e w7 ⟨rfl, hb⟩; refine ⟨_, rfl, ?_⟩; have n0_ := Aside0.mk (blk_below (g := gb125) (o := .cells #[.int .i64 a0_0, .int .i64 a0_1, .int .i64 a0_2, .int .i64 a0_3, .int .i64 a0_4] 29 (0, 0)) (by (with_reducible repeat (first | refine blk_drewN ?_ _ | refine blk_drew ?_ | refine blk_alloc ?_ _)); exact BK125.out) hb); have n1_ := Aside0.mk (below_step (by repeat (first | (with_reducible first | exact HB.out | apply below_alloc | apply pw_below_drewN | apply below_drew1 | refine below_set ?_ GE125.out) | exact HB.out)) hb); clear BK125; clear HB; have BK125 := n0_; have HB := n1_; clear n0_ n1_; (try clear hb); (try clear hb2); (try clear hk); (try clear hi); have hcz8_0 : w7.cell? ⟨gb125, 0, none⟩ = some (.int .i64 a0_0) := (blk_cell BK125.out 0).trans rfl; have hcz8_1 : w7.cell? ⟨gb125, 1, none⟩ = some (.int .i64 a0_1) := (blk_cell BK125.out 1).trans rfl; have hcz8_2 : w7.cell? ⟨gb125, 2, none⟩ = some (.int .i64 a0_2) := (blk_cell BK125.out 2).trans rfl; have hcz8_3 : w7.cell? ⟨gb125, 3, none⟩ = some (.int .i64 a0_3) := (blk_cell BK125.out 3).trans rfl; have hcz8_4 : w7.cell? ⟨gb125, 4, none⟩ = some (.int .i64 a0_4) := (blk_cell BK125.out 4).trans rfl; have hfz8_0 := blk_frozen BK125.out 0; have hfz8_1 := blk_frozen BK125.out 1; have hfz8_2 := blk_frozen BK125.out 2; have hfz8_3 := blk_frozen BK125.out 3; have hfz8_4 := blk_frozen BK125.out 4) | (go_at_call 30; (with_reducible refine (class_Heavy.calls a0_0 a0_1 a0_2 a0_3 a0_4 t127 _ A4.out).mono ?_); rintro e w9 ⟨rfl, hb⟩; have n0_ := Aside0.mk (blk_below (g := gb125) (o := .cells #[.int .i64 a0_0, .int .i64 a0_1, .int .i64 a0_2, .int .i64 a0_3, .int .i64 a0_4] 29 (0, 0)) (by (with_reducible repeat (first | refine blk_drewN ?_ _ | refine blk_drew ?_ | refine blk_alloc ?_ _)); exact BK125.out) hb); have n1_ := Aside0.mk (below_step (by repeat (first | (with_reducible first | exact HB.out | apply below_alloc | apply pw_below_drewN | apply below_drew1 | refine below_set ?_ GE125.out) | exact HB.out)) hb); clear BK125; clear HB; have BK125 := n0_; have HB := n1_; clear n0_ n1_; (try clear hb); (try clear hb2); (try clear hk); (try clear hi)))
    go_ret
    exact ⟨by first | rfl | (simp [errW_none, errW_some] <;> rfl) | (simp [*, errW_none, errW_some] <;> rfl), by repeat (first | (with_reducible first | exact HB.out | apply below_alloc | apply pw_below_drewN | apply below_drew1 | refine below_set ?_ GE125.out) | exact HB.out)⟩
  · rw [if_neg c3] at H
    have c3b0 : (t126 == 0) = false := beq_eq_false_iff_ne.mpr c3
    have c3b1 : (t126 != 0) = true := bne_iff_ne.mpr c3
    obtain rfl := Option.some.inj H
    go_enter Tryd.func28, Tryd.ntmps28
    go_wp2_with (first | ((with_reducible refine gate_dst (N := 1) rfl ?_); refine box_event ?hg (N := 1) ?hd (cs := #[.int .i64 a0_0, .int .i64 a0_1, .int .i64 a0_2, .int .i64 a0_3, .int .i64 a0_4]) (t := 29) ?hr ?_; (case hd => rfl); (case hg => rfl); (case hr => first | (go_simp; done) | (go_simp; rfl)); intro gb125 hg w10 hbox hb; have n0_ := Aside0.mk (below_step (by repeat (first | (with_reducible first | exact HB.out | apply below_alloc | apply pw_below_drewN | apply below_drew1) | exact HB.out)) hb); have n1_ := Aside0.mk (hbox); have n2_ := Aside0.mk ((by rw [hg]; exact (below_size (by repeat (first | (with_reducible first | exact HB.out | apply below_alloc | apply pw_below_drewN | apply below_drew1) | exact HB.out))) : w.heap.size ≤ gb125)); have n3_ := Aside0.mk ((by rw [hg]; exact (below_size (by repeat (first | (with_reducible first | exact HB.out | apply below_alloc | apply pw_below_drewN | apply below_drew1) | exact HB.out))) : w.heap.size ≤ gb125)); clear HB; have HB := n0_; have BK125 := n1_; have GW125 := n2_; have GE125 := n3_; clear n0_ n1_ n2_ n3_; clear hb hbox hg; have hcz11_0 : w10.cell? ⟨gb125, 0, none⟩ = some (.int .i64 a0_0) := (blk_cell BK125.out 0).trans rfl; have hcz11_1 : w10.cell? ⟨gb125, 1, none⟩ = some (.int .i64 a0_1) := (blk_cell BK125.out 1).trans rfl; have hcz11_2 : w10.cell? ⟨gb125, 2, none⟩ = some (.int .i64 a0_2) := (blk_cell BK125.out 2).trans rfl; have hcz11_3 : w10.cell? ⟨gb125, 3, none⟩ = some (.int .i64 a0_3) := (blk_cell BK125.out 3).trans rfl; have hcz11_4 : w10.cell? ⟨gb125, 4, none⟩ = some (.int .i64 a0_4) := (blk_cell BK125.out 4).trans rfl; have hfz11_0 := blk_frozen BK125.out 0; have hfz11_1 := blk_frozen BK125.out 1; have hfz11_2 := blk_frozen BK125.out 2; have hfz11_3 := blk_frozen BK125.out 3; have hfz11_4 := blk_frozen BK125.out 4) | ((with_reducible refine gate_callee (f := 29) rfl ?_); refine goesL_ (some 4) rfl rfl Tryd.func29 (by kernel_rfl) rfl #[.agg #[.int .i64 a0_0, .int .i64 a0_1, .int .i64 a0_2, .int .i64 a0_3, .int .i64 a0_4]] rfl (by (try simp only [List.map_toArray, List.map_cons, List.map_nil]); first | done | rfl | (simp only [List.length_drop, List.length_take]; rfl)) ?_; (with_reducible refine (class_Check.calls a0_0 a0_1 a0_2 a0_3 a0_4 t126 _ A2.out).mono ?_); rintro e w12 ⟨rfl, hb⟩; refine ⟨_, rfl, ?_⟩; have n0_ := Aside0.mk (blk_below (g := gb125) (o := .cells #[.int .i64 a0_0, .int .i64 a0_1, .int .i64 a0_2, .int .i64 a0_3, .int .i64 a0_4] 29 (0, 0)) (by (with_reducible repeat (first | refine blk_drewN ?_ _ | refine blk_drew ?_ | refine blk_alloc ?_ _)); exact BK125.out) hb); have n1_ := Aside0.mk (below_step (by repeat (first | (with_reducible first | exact HB.out | apply below_alloc | apply pw_below_drewN | apply below_drew1 | refine below_set ?_ GE125.out) | exact HB.out)) hb); clear BK125; clear HB; have BK125 := n0_; have HB := n1_; clear n0_ n1_; (try clear hb); (try clear hb2); (try clear hk); (try clear hi)))
    go_ret
    exact ⟨by first | rfl | (simp [errW_none, errW_some] <;> rfl) | (simp [*, errW_none, errW_some] <;> rfl), by repeat (first | (with_reducible first | exact HB.out | apply below_alloc | apply pw_below_drewN | apply below_drew1 | refine below_set ?_ GE125.out) | exact HB.out)⟩
/-! ### edf_Horizon_1: function 33 -/
def edf_Horizon_1.f (a0 : Int) (a1_0 : Int) (a1_1 : Int) (a1_2 : Int) (a1_3 : Int) (a1_4 : Int) : Option (Int) := some (mx a0 a1_4)
set_option maxHeartbeats 8000000 in
set_option maxRecDepth 100000 in
theorem edf_Horizon_1.calls (a0 : Int) (a1_0 : Int) (a1_1 : Int) (a1_2 : Int) (a1_3 : Int) (a1_4 : Int) (r : Int) (w : World) (h : edf_Horizon_1.f a0 a1_0 a1_1 a1_2 a1_3 a1_4 = some r) :
    Calls Tryd.prog 33 #[.int .i64 a0, .agg #[.int .i64 a1_0, .int .i64 a1_1, .int .i64 a1_2, .int .i64 a1_3, .int .i64 a1_4]] w fun e w' => e = .returned (.int .i64 r) ∧ Below w.heap.size w w' := by
  have hu29 := Tryd.underlying29
  have HB := Aside0.mk (Below.refl w.heap.size w)
  have H : (some (mx a0 a1_4)) = some r := h
  clear h
  obtain ⟨ji3, hji3⟩ : ∃ j_ : Int, (mx a0 a1_4) = j_ := ⟨_, rfl⟩
  replace H : (some ji3) = some r := by first | (rw [hji3] at H; exact H) | (simp only [hji3] at H ⊢; exact H)
  have hji3_ : (if a0 < a1_4 then a1_4 else a0) = ji3 := hji3
  obtain rfl := Option.some.inj H
  go_enter Tryd.func33, Tryd.ntmps33
  go_wp2_with (first | ((with_reducible refine gate_dst (N := 3) rfl ?_); refine box_event ?hg (N := 3) ?hd (cs := #[.int .i64 a1_0, .int .i64 a1_1, .int .i64 a1_2, .int .i64 a1_3, .int .i64 a1_4]) (t := 29) ?hr ?_; (case hd => rfl); (case hg => rfl); (case hr => first | (go_simp; done) | (go_simp; rfl)); intro gb128 hg w4 hbox hb; have n0_ := Aside0.mk (below_step (by repeat (first | (with_reducible first | exact HB.out | apply below_alloc | apply pw_below_drewN | apply below_drew1) | exact HB.out)) hb); have n1_ := Aside0.mk (hbox); have n2_ := Aside0.mk ((by rw [hg]; exact (below_size (by repeat (first | (with_reducible first | exact HB.out | apply below_alloc | apply pw_below_drewN | apply below_drew1) | exact HB.out))) : w.heap.size ≤ gb128)); have n3_ := Aside0.mk ((by rw [hg]; exact (below_size (by repeat (first | (with_reducible first | exact HB.out | apply below_alloc | apply pw_below_drewN | apply below_drew1) | exact HB.out))) : w.heap.size ≤ gb128)); clear HB; have HB := n0_; have BK128 := n1_; have GW128 := n2_; have GE128 := n3_; clear n0_ n1_ n2_ n3_; clear hb hbox hg; have hcz5_0 : w4.cell? ⟨gb128, 0, none⟩ = some (.int .i64 a1_0) := (blk_cell BK128.out 0).trans rfl; have hcz5_1 : w4.cell? ⟨gb128, 1, none⟩ = some (.int .i64 a1_1) := (blk_cell BK128.out 1).trans rfl; have hcz5_2 : w4.cell? ⟨gb128, 2, none⟩ = some (.int .i64 a1_2) := (blk_cell BK128.out 2).trans rfl; have hcz5_3 : w4.cell? ⟨gb128, 3, none⟩ = some (.int .i64 a1_3) := (blk_cell BK128.out 3).trans rfl; have hcz5_4 : w4.cell? ⟨gb128, 4, none⟩ = some (.int .i64 a1_4) := (blk_cell BK128.out 4).trans rfl; have hfz5_0 := blk_frozen BK128.out 0; have hfz5_1 := blk_frozen BK128.out 1; have hfz5_2 := blk_frozen BK128.out 2; have hfz5_3 := blk_frozen BK128.out 3; have hfz5_4 := blk_frozen BK128.out 4))
  go_ret
  exact ⟨by first | rfl | (simp [errW_none, errW_some] <;> rfl) | (simp only [← hji3]; first | rfl | (simp [errW_none, errW_some] <;> rfl)) | (simp [*, errW_none, errW_some] <;> rfl), by repeat (first | (with_reducible first | exact HB.out | apply below_alloc | apply pw_below_drewN | apply below_drew1 | refine below_set ?_ GE128.out) | exact HB.out)⟩
set_option maxHeartbeats 1000000 in
set_option maxRecDepth 100000 in
theorem containsInt_calls (p : Int → Bool) (f : FuncId) (A0 : Option Addr) (c0 : Nat) (l0 : List Int) (w : World) (hr : Kd.C (Kd.int .i64) w A0 l0.length l0)
    (he : ∀ args W, (callFunc f args).run Tryd.prog W = .ok (.enter f args) W)
    (hf : ∀ s ∈ l0, ∀ (W : World), Below w.heap.size w W → Calls Tryd.prog f #[.int .i64 s] W fun e w' => e = .returned (.bool (p s)) ∧ Below W.heap.size W w') :
    Calls Tryd.prog 37 #[.slice A0 l0.length c0, .func (.func f) #[] #[]] w fun e w' => e = .returned (.bool (l0.any p)) ∧ Below w.heap.size w w' := by
  have C := Lib.hid (indexInt_calls p f #[] A0 c0 l0 w hr he (fun s hs _ _ W hb => hf s hs W hb))
  have E := Lib.hid (idxP_any p l0)
  clear hr hf
  generalize idxP p l0 = j at *
  go_enter Tryd.func37, Tryd.ntmps37
  go_wp2_with (go_at_call 51; refine C.out.mono ?_; rintro e w' ⟨rfl, hb⟩)
  go_ret
  rw [← E.out]
  exact ⟨rfl, hb⟩
def oddN (n : Int) : Bool := decide (n < 1) || decide (n > 1000)
theorem enters_odd : ∀ args W, (callFunc 36 args).run Tryd.prog W = .ok (.enter 36 args) W := enters_ Tryd.func36 (by kernel_rfl) rfl
set_option maxHeartbeats 1000000 in
set_option maxRecDepth 100000 in
theorem odd_calls (n : Int) (w : World) : Calls Tryd.prog 36 #[.int .i64 n] w fun e w' => e = .returned (.bool (oddN n)) ∧ Below w.heap.size w w' := by
  by_cases h : n < 1
  · have e : oddN n = true := by unfold oddN; simp [h]
    rw [e]
    have hb : decide (n < 1) = true := decide_eq_true h
    clear h e
    go_enter Tryd.func36, Tryd.ntmps36
    go_wp2
    go_ret
    exact ⟨rfl, Below.refl _ _⟩
  · have e : oddN n = decide (n > 1000) := by unfold oddN; simp [h]
    rw [e]
    have hb : decide (n < 1) = false := decide_eq_false h
    clear h e
    go_enter Tryd.func36, Tryd.ntmps36
    go_wp2
    go_ret
    exact ⟨rfl, Below.refl _ _⟩
def jobB (t d : Int) (l : List Int) : Bool := decide (t ≥ 0) && (decide (t < 8) && (decide (d ≥ 0) && (decide (d ≤ 1099511627775) && (decide ((l.length : Int) ≥ 1) && (decide ((l.length : Int) ≤ 64) && !l.any oddN)))))
/-! ### lane_job: function 18 -/
def lane_job.f (a0_0 a0_1 : Int) (l0_2 : List Int) : Option Bool := some (jobB a0_0 a0_1 l0_2)
set_option maxHeartbeats 4000000 in
set_option maxRecDepth 100000 in
theorem lane_job.calls (a0_0 : Int) (a0_1 : Int) (A0_2 : Option Addr) (c0_2 : Nat) (l0_2 : List Int) (r : Bool) (w : World) (hr0_2 : Kd.C (Kd.int .i64) w A0_2 l0_2.length l0_2) (hc0_2 : l0_2.length ≤ c0_2) (h : lane_job.f a0_0 a0_1 l0_2 = some r) :
    Calls Tryd.prog 18 #[.agg #[.int .i64 a0_0, .int .i64 a0_1, .slice A0_2 l0_2.length c0_2]] w fun e w' => e = .returned (.bool r) ∧ Below w.heap.size w w' := by
  obtain rfl := Option.some.inj h
  have C := fun W hb => Lib.hid (containsInt_calls oddN 36 A0_2 c0_2 l0_2 W (Kd.C_below hr0_2 hb) enters_odd (fun s _ W _ => odd_calls s W))
  have HR := Lib.hid hr0_2
  clear hr0_2 h
  generalize hj : jobB a0_0 a0_1 l0_2 = r at *
  have HJ := Lib.hid hj
  clear hj
  by_cases c0 : a0_0 ≥ 0
  case neg =>
    have c0b : decide (a0_0 ≥ 0) = false := decide_eq_false c0
    obtain rfl : r = false := by rw [← HJ.out]; unfold jobB; simp only [c0b, Bool.true_and, Bool.false_and]
    clear c0 C
    go_enter Tryd.func18, Tryd.ntmps18
    go_wp2_with ((with_reducible refine gate_dst (N := 1) rfl ?_); refine box_event ?hg (N := 1) ?hd (cs := #[.int .i64 a0_0, .int .i64 a0_1, .slice A0_2 l0_2.length c0_2]) (t := 41) ?hr ?_; (case hd => rfl); (case hg => rfl); (case hr => first | (go_simp; done) | (go_simp; rfl)); intro kb hE_ w1 hbox hb; have HB := Lib.hid hb; have k0 : w1.cell? ⟨kb, 0, none⟩ = some (.int .i64 a0_0) := (blk_cell hbox 0).trans rfl; have k1 : w1.cell? ⟨kb, 1, none⟩ = some (.int .i64 a0_1) := (blk_cell hbox 1).trans rfl; have k2 : w1.cell? ⟨kb, 2, none⟩ = some (.slice A0_2 l0_2.length c0_2) := (blk_cell hbox 2).trans rfl; clear hE_ hbox hb)
    go_ret
    exact ⟨rfl, HB.out⟩
  have c0b : decide (a0_0 ≥ 0) = true := decide_eq_true c0
  clear c0
  by_cases c1 : a0_0 < 8
  case neg =>
    have c1b : decide (a0_0 < 8) = false := decide_eq_false c1
    obtain rfl : r = false := by rw [← HJ.out]; unfold jobB; simp only [c0b, c1b, Bool.true_and, Bool.false_and]
    clear c1 C
    go_enter Tryd.func18, Tryd.ntmps18
    go_wp2_with ((with_reducible refine gate_dst (N := 1) rfl ?_); refine box_event ?hg (N := 1) ?hd (cs := #[.int .i64 a0_0, .int .i64 a0_1, .slice A0_2 l0_2.length c0_2]) (t := 41) ?hr ?_; (case hd => rfl); (case hg => rfl); (case hr => first | (go_simp; done) | (go_simp; rfl)); intro kb hE_ w1 hbox hb; have HB := Lib.hid hb; have k0 : w1.cell? ⟨kb, 0, none⟩ = some (.int .i64 a0_0) := (blk_cell hbox 0).trans rfl; have k1 : w1.cell? ⟨kb, 1, none⟩ = some (.int .i64 a0_1) := (blk_cell hbox 1).trans rfl; have k2 : w1.cell? ⟨kb, 2, none⟩ = some (.slice A0_2 l0_2.length c0_2) := (blk_cell hbox 2).trans rfl; clear hE_ hbox hb)
    go_ret
    exact ⟨rfl, HB.out⟩
  have c1b : decide (a0_0 < 8) = true := decide_eq_true c1
  clear c1
  by_cases c2 : a0_1 ≥ 0
  case neg =>
    have c2b : decide (a0_1 ≥ 0) = false := decide_eq_false c2
    obtain rfl : r = false := by rw [← HJ.out]; unfold jobB; simp only [c0b, c1b, c2b, Bool.true_and, Bool.false_and]
    clear c2 C
    go_enter Tryd.func18, Tryd.ntmps18
    go_wp2_with ((with_reducible refine gate_dst (N := 1) rfl ?_); refine box_event ?hg (N := 1) ?hd (cs := #[.int .i64 a0_0, .int .i64 a0_1, .slice A0_2 l0_2.length c0_2]) (t := 41) ?hr ?_; (case hd => rfl); (case hg => rfl); (case hr => first | (go_simp; done) | (go_simp; rfl)); intro kb hE_ w1 hbox hb; have HB := Lib.hid hb; have k0 : w1.cell? ⟨kb, 0, none⟩ = some (.int .i64 a0_0) := (blk_cell hbox 0).trans rfl; have k1 : w1.cell? ⟨kb, 1, none⟩ = some (.int .i64 a0_1) := (blk_cell hbox 1).trans rfl; have k2 : w1.cell? ⟨kb, 2, none⟩ = some (.slice A0_2 l0_2.length c0_2) := (blk_cell hbox 2).trans rfl; clear hE_ hbox hb)
    go_ret
    exact ⟨rfl, HB.out⟩
  have c2b : decide (a0_1 ≥ 0) = true := decide_eq_true c2
  clear c2
  by_cases c3 : a0_1 ≤ 1099511627775
  case neg =>
    have c3b : decide (a0_1 ≤ 1099511627775) = false := decide_eq_false c3
    obtain rfl : r = false := by rw [← HJ.out]; unfold jobB; simp only [c0b, c1b, c2b, c3b, Bool.true_and, Bool.false_and]
    clear c3 C
    go_enter Tryd.func18, Tryd.ntmps18
    go_wp2_with ((with_reducible refine gate_dst (N := 1) rfl ?_); refine box_event ?hg (N := 1) ?hd (cs := #[.int .i64 a0_0, .int .i64 a0_1, .slice A0_2 l0_2.length c0_2]) (t := 41) ?hr ?_; (case hd => rfl); (case hg => rfl); (case hr => first | (go_simp; done) | (go_simp; rfl)); intro kb hE_ w1 hbox hb; have HB := Lib.hid hb; have k0 : w1.cell? ⟨kb, 0, none⟩ = some (.int .i64 a0_0) := (blk_cell hbox 0).trans rfl; have k1 : w1.cell? ⟨kb, 1, none⟩ = some (.int .i64 a0_1) := (blk_cell hbox 1).trans rfl; have k2 : w1.cell? ⟨kb, 2, none⟩ = some (.slice A0_2 l0_2.length c0_2) := (blk_cell hbox 2).trans rfl; clear hE_ hbox hb)
    go_ret
    exact ⟨rfl, HB.out⟩
  have c3b : decide (a0_1 ≤ 1099511627775) = true := decide_eq_true c3
  clear c3
  by_cases c4 : (l0_2.length : Int) ≥ 1
  case neg =>
    have c4b : decide ((l0_2.length : Int) ≥ 1) = false := decide_eq_false c4
    obtain rfl : r = false := by rw [← HJ.out]; unfold jobB; simp only [c0b, c1b, c2b, c3b, c4b, Bool.true_and, Bool.false_and]
    clear c4 C
    go_enter Tryd.func18, Tryd.ntmps18
    go_wp2_with ((with_reducible refine gate_dst (N := 1) rfl ?_); refine box_event ?hg (N := 1) ?hd (cs := #[.int .i64 a0_0, .int .i64 a0_1, .slice A0_2 l0_2.length c0_2]) (t := 41) ?hr ?_; (case hd => rfl); (case hg => rfl); (case hr => first | (go_simp; done) | (go_simp; rfl)); intro kb hE_ w1 hbox hb; have HB := Lib.hid hb; have k0 : w1.cell? ⟨kb, 0, none⟩ = some (.int .i64 a0_0) := (blk_cell hbox 0).trans rfl; have k1 : w1.cell? ⟨kb, 1, none⟩ = some (.int .i64 a0_1) := (blk_cell hbox 1).trans rfl; have k2 : w1.cell? ⟨kb, 2, none⟩ = some (.slice A0_2 l0_2.length c0_2) := (blk_cell hbox 2).trans rfl; clear hE_ hbox hb)
    go_ret
    exact ⟨rfl, HB.out⟩
  have c4b : decide ((l0_2.length : Int) ≥ 1) = true := decide_eq_true c4
  clear c4
  by_cases c5 : (l0_2.length : Int) ≤ 64
  case neg =>
    have c5b : decide ((l0_2.length : Int) ≤ 64) = false := decide_eq_false c5
    obtain rfl : r = false := by rw [← HJ.out]; unfold jobB; simp only [c0b, c1b, c2b, c3b, c4b, c5b, Bool.true_and, Bool.false_and]
    clear c5 C
    go_enter Tryd.func18, Tryd.ntmps18
    go_wp2_with ((with_reducible refine gate_dst (N := 1) rfl ?_); refine box_event ?hg (N := 1) ?hd (cs := #[.int .i64 a0_0, .int .i64 a0_1, .slice A0_2 l0_2.length c0_2]) (t := 41) ?hr ?_; (case hd => rfl); (case hg => rfl); (case hr => first | (go_simp; done) | (go_simp; rfl)); intro kb hE_ w1 hbox hb; have HB := Lib.hid hb; have k0 : w1.cell? ⟨kb, 0, none⟩ = some (.int .i64 a0_0) := (blk_cell hbox 0).trans rfl; have k1 : w1.cell? ⟨kb, 1, none⟩ = some (.int .i64 a0_1) := (blk_cell hbox 1).trans rfl; have k2 : w1.cell? ⟨kb, 2, none⟩ = some (.slice A0_2 l0_2.length c0_2) := (blk_cell hbox 2).trans rfl; clear hE_ hbox hb)
    go_ret
    exact ⟨rfl, HB.out⟩
  have c5b : decide ((l0_2.length : Int) ≤ 64) = true := decide_eq_true c5
  clear c5
  have e : r = !l0_2.any oddN := by rw [← HJ.out]; unfold jobB; simp only [c0b, c1b, c2b, c3b, c4b, c5b, Bool.true_and]
  generalize l0_2.any oddN = q at *
  subst e
  clear HJ
  go_enter Tryd.func18, Tryd.ntmps18
  go_wp2_with (first | ((with_reducible refine gate_dst (N := 1) rfl ?_); refine box_event ?hg (N := 1) ?hd (cs := #[.int .i64 a0_0, .int .i64 a0_1, .slice A0_2 l0_2.length c0_2]) (t := 41) ?hr ?_; (case hd => rfl); (case hg => rfl); (case hr => first | (go_simp; done) | (go_simp; rfl)); intro kb hE_ w1 hbox hb; have HB := Lib.hid hb; have k0 : w1.cell? ⟨kb, 0, none⟩ = some (.int .i64 a0_0) := (blk_cell hbox 0).trans rfl; have k1 : w1.cell? ⟨kb, 1, none⟩ = some (.int .i64 a0_1) := (blk_cell hbox 1).trans rfl; have k2 : w1.cell? ⟨kb, 2, none⟩ = some (.slice A0_2 l0_2.length c0_2) := (blk_cell hbox 2).trans rfl; clear hE_ hbox hb) | (go_at_call 37; refine (C _ HB.out).out.mono ?_; rintro e w2 ⟨rfl, hb2⟩))
  go_ret
  exact ⟨rfl, below_step HB.out hb2⟩
end Go.Proofs.YteodhffgnkdcfaaDoor.Q
