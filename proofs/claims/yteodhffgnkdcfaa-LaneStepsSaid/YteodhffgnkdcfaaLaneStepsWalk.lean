/- A walk: whatever is done is the document's. -/
import Derived.Test.YteodhffgnkdcfaaQx14
import Derived.Test.YteodhffgnkdcfaaQx11
import Derived.Test.YteodhffgnkdcfaaQx16
import Derived.Test.YteodhffgnkdcfaaLaneAwake
import Derived.Test.YteodhffgnkdcfaaQx20
import Derived.Test.YteodhffgnkdcfaaQx21
import Derived.Test.YteodhffgnkdcfaaLaneStepsPure
set_option linter.unusedVariables false
set_option linter.unusedSimpArgs false
namespace Go.Proofs.Yteodhffgnkdcfaa.Q
open Go.RowKit Go.Proofs.YteodhffgnkdcfaaW.PrintWords Go.Proofs.YteodhffgnkdcfaaW.PrintLast Go.Proofs.YteodhffgnkdcfaaW.PrintMore
attribute [local go_sem] max2_int min2_int max_two min_two max_three min_three max_four min_four
attribute [local go_sem high] eqA36
def trefoillaw18_LaneSteps.f (k : Nat) (l : List J3) (a : Int) (lo : List J3) (b j0 j1 : Int) (lj : List Int) (task : Int) : Option Bool := some true
theorem laneSteps (K : Nat) (hK : 3000 < K) (l : List J3) (a : Int) (lo : List J3) (b j0 j1 : Int) (lj : List Int) (task : Int) : trefoillaw18_LaneSteps.f K l a lo b j0 j1 lj task = some true := rfl
set_option maxHeartbeats 16000000 in
set_option maxRecDepth 100000 in
theorem trefoillaw18_LaneSteps.calls (k : Nat) (A0 : Option Addr) (c0 : Nat) (l : List J3) (a : Int) (A1 : Option Addr) (c1 : Nat) (lo : List J3) (b j0 j1 : Int) (A2 : Option Addr) (c2 : Nat) (lj : List Int) (task : Int) (r : Bool) (w : World) (hr : Kd.C k27 w A0 l.length l) (hc : l.length ≤ c0) (hr1 : Kd.C k27 w A1 lo.length lo) (hc1 : lo.length ≤ c1) (hr2 : Kd.C (Kd.int .i64) w A2 lj.length lj) (hc2 : lj.length ≤ c2) (h : trefoillaw18_LaneSteps.f k l a lo b j0 j1 lj task = some r) :
    Calls Try.prog 3 #[.agg #[.slice A0 l.length c0, .int .i64 a], .agg #[.slice A1 lo.length c1, .int .i64 b], .agg #[.int .i64 j0, .int .i64 j1, .slice A2 lj.length c2], .int .i64 task] w fun e w' => e = .returned (.bool r) ∧ Below w.heap.size w w' := by
  obtain rfl : true = r := Option.some.inj h
  obtain ⟨K, hK⟩ : ∃ K : Nat, 3000 < K := ⟨3001, by omega⟩
  have HR := Lib.hid hr
  have Hc := Lib.hid hc
  have HR1 := Lib.hid hr1
  have Hc1 := Lib.hid hc1
  have HR2 := Lib.hid hr2
  have Hc2 := Lib.hid hc2
  have HS := Lib.hid (Sx.start w)
  clear hr hc hr1 hc1 hr2 hc2 h
  by_cases cf : fewL l
  case neg =>
    have HF := Lib.hid (few_no (a := a) (k := K) (by omega) cf)
    clear cf
    go_enter Try.func3, Try.ntmps3
    go_wp2_with (first | ((with_reducible refine gate_dst (N := 4) rfl ?_); refine box_event ?hg (N := 4) ?hd (cs := #[.slice A0 l.length c0, .int .i64 a]) (t := 24) ?hr ?_; (case hd => rfl); (case hg => rfl); (case hr => first | (go_simp; done) | (go_simp; rfl)); intro kl hE_ w1 hbox hb; have HN := Lib.hid (show Sx w [(kl, #[.slice A0 l.length c0, .int .i64 a], 24)] [] w1 from HS.out.box hE_ hbox hb); clear HS hE_ hbox hb; have HS := Lib.hid HN.out; clear HN) | ((with_reducible refine gate_dst (N := 5) rfl ?_); refine box_event ?hg (N := 5) ?hd (cs := #[.slice A1 lo.length c1, .int .i64 b]) (t := 24) ?hr ?_; (case hd => rfl); (case hg => rfl); (case hr => first | (go_simp; done) | (go_simp; rfl)); intro ko hE_ w2 hbox hb; have HN := Lib.hid (show Sx w [(ko, #[.slice A1 lo.length c1, .int .i64 b], 24), (kl, #[.slice A0 l.length c0, .int .i64 a], 24)] [] w2 from HS.out.box hE_ hbox hb); clear HS hE_ hbox hb; have HS := Lib.hid HN.out; clear HN) | ((with_reducible refine gate_dst (N := 6) rfl ?_); refine box_event ?hg (N := 6) ?hd (cs := #[.int .i64 j0, .int .i64 j1, .slice A2 lj.length c2]) (t := 27) ?hr ?_; (case hd => rfl); (case hg => rfl); (case hr => first | (go_simp; done) | (go_simp; rfl)); intro kj hE_ w3 hbox hb; have HN := Lib.hid (show Sx w [(kj, #[.int .i64 j0, .int .i64 j1, .slice A2 lj.length c2], 27), (ko, #[.slice A1 lo.length c1, .int .i64 b], 24), (kl, #[.slice A0 l.length c0, .int .i64 a], 24)] [] w3 from HS.out.box hE_ hbox hb); clear HS hE_ hbox hb; have HS := Lib.hid HN.out; clear HN) | (go_at_call 8; refine Calls.mono (lawake_calls _) ?_; rintro e_ w4 ⟨rfl, hb⟩; have HN := Lib.hid (show Sx w [(kj, #[.int .i64 j0, .int .i64 j1, .slice A2 lj.length c2], 27), (ko, #[.slice A1 lo.length c1, .int .i64 b], 24), (kl, #[.slice A0 l.length c0, .int .i64 a], 24)] [] w4 from HS.out.below hb); clear HS hb; have HS := Lib.hid HN.out; clear HN) | ((with_reducible refine gate_dst (N := 28) rfl ?_); refine gate_guard (by rfl) ?_; dsimp only; refine wpList_load_row rfl 24 (.tmp 4) rfl kl rfl 24 #[.slice A0 l.length c0, .int .i64 a] (0, 0) _ (HS.out.get 2 rfl) Try.underlying24 rfl (by kernel_rfl) ?_) | ((with_reducible refine gate_dst (N := 28) rfl ?_); refine wpList_load_row rfl 24 (.tmp 4) rfl kl rfl 24 #[.slice A0 l.length c0, .int .i64 a] (0, 0) _ (HS.out.get 2 rfl) Try.underlying24 rfl (by kernel_rfl) ?_) | (go_at_call 9; (with_reducible refine Calls.mono (trefoilref18_Few.calls K A0 c0 l a false _ ?s1 ?s2 ?s3) ?_); (case s1 => exact Kd.C_below HR.out HS.out.B); (case s2 => exact Hc.out); (case s3 => exact HF.out); rintro e_ w5 ⟨rfl, hb⟩; have HN := Lib.hid (show Sx w [(kj, #[.int .i64 j0, .int .i64 j1, .slice A2 lj.length c2], 27), (ko, #[.slice A1 lo.length c1, .int .i64 b], 24), (kl, #[.slice A0 l.length c0, .int .i64 a], 24)] [] w5 from HS.out.below hb); clear HS hb; have HS := Lib.hid HN.out; clear HN) | ((with_reducible refine gate_dst (N := 33) rfl ?_); refine gate_guard (by rfl) ?_; dsimp only; refine wpList_load_row rfl 24 (.tmp 5) rfl ko rfl 24 #[.slice A1 lo.length c1, .int .i64 b] (0, 0) _ (HS.out.get 1 rfl) Try.underlying24 rfl (by kernel_rfl) ?_) | ((with_reducible refine gate_dst (N := 33) rfl ?_); refine wpList_load_row rfl 24 (.tmp 5) rfl ko rfl 24 #[.slice A1 lo.length c1, .int .i64 b] (0, 0) _ (HS.out.get 1 rfl) Try.underlying24 rfl (by kernel_rfl) ?_))
    go_ret
    exact ⟨rfl, HS.out.B⟩
  case pos =>
    have HF := Lib.hid (few_yes (a := a) (k := K) (by omega) cf)
    have hl : l.length ≤ 12 := cf.1
    have HL := Lib.hid (show ∀ x ∈ l, x.f2.length ≤ 1000 from fun x hx => by have := cf.2 x hx; omega)
    have HO := Lib.hid (lown_eq (l := l) (a := a) (k := K) (by omega) HL.out (by omega))
    clear cf
    by_cases cf1 : fewL lo
    case neg =>
      have HF1 := Lib.hid (few_no (a := b) (k := K) (by omega) cf1)
      clear cf1
      go_enter Try.func3, Try.ntmps3
      go_wp2_with (first | ((with_reducible refine gate_dst (N := 4) rfl ?_); refine box_event ?hg (N := 4) ?hd (cs := #[.slice A0 l.length c0, .int .i64 a]) (t := 24) ?hr ?_; (case hd => rfl); (case hg => rfl); (case hr => first | (go_simp; done) | (go_simp; rfl)); intro kl hE_ w1 hbox hb; have HN := Lib.hid (show Sx w [(kl, #[.slice A0 l.length c0, .int .i64 a], 24)] [] w1 from HS.out.box hE_ hbox hb); clear HS hE_ hbox hb; have HS := Lib.hid HN.out; clear HN) | ((with_reducible refine gate_dst (N := 5) rfl ?_); refine box_event ?hg (N := 5) ?hd (cs := #[.slice A1 lo.length c1, .int .i64 b]) (t := 24) ?hr ?_; (case hd => rfl); (case hg => rfl); (case hr => first | (go_simp; done) | (go_simp; rfl)); intro ko hE_ w2 hbox hb; have HN := Lib.hid (show Sx w [(ko, #[.slice A1 lo.length c1, .int .i64 b], 24), (kl, #[.slice A0 l.length c0, .int .i64 a], 24)] [] w2 from HS.out.box hE_ hbox hb); clear HS hE_ hbox hb; have HS := Lib.hid HN.out; clear HN) | ((with_reducible refine gate_dst (N := 6) rfl ?_); refine box_event ?hg (N := 6) ?hd (cs := #[.int .i64 j0, .int .i64 j1, .slice A2 lj.length c2]) (t := 27) ?hr ?_; (case hd => rfl); (case hg => rfl); (case hr => first | (go_simp; done) | (go_simp; rfl)); intro kj hE_ w3 hbox hb; have HN := Lib.hid (show Sx w [(kj, #[.int .i64 j0, .int .i64 j1, .slice A2 lj.length c2], 27), (ko, #[.slice A1 lo.length c1, .int .i64 b], 24), (kl, #[.slice A0 l.length c0, .int .i64 a], 24)] [] w3 from HS.out.box hE_ hbox hb); clear HS hE_ hbox hb; have HS := Lib.hid HN.out; clear HN) | (go_at_call 8; refine Calls.mono (lawake_calls _) ?_; rintro e_ w4 ⟨rfl, hb⟩; have HN := Lib.hid (show Sx w [(kj, #[.int .i64 j0, .int .i64 j1, .slice A2 lj.length c2], 27), (ko, #[.slice A1 lo.length c1, .int .i64 b], 24), (kl, #[.slice A0 l.length c0, .int .i64 a], 24)] [] w4 from HS.out.below hb); clear HS hb; have HS := Lib.hid HN.out; clear HN) | ((with_reducible refine gate_dst (N := 28) rfl ?_); refine gate_guard (by rfl) ?_; dsimp only; refine wpList_load_row rfl 24 (.tmp 4) rfl kl rfl 24 #[.slice A0 l.length c0, .int .i64 a] (0, 0) _ (HS.out.get 2 rfl) Try.underlying24 rfl (by kernel_rfl) ?_) | ((with_reducible refine gate_dst (N := 28) rfl ?_); refine wpList_load_row rfl 24 (.tmp 4) rfl kl rfl 24 #[.slice A0 l.length c0, .int .i64 a] (0, 0) _ (HS.out.get 2 rfl) Try.underlying24 rfl (by kernel_rfl) ?_) | (go_at_call 9; (with_reducible refine Calls.mono (trefoilref18_Few.calls K A0 c0 l a true _ ?s1 ?s2 ?s3) ?_); (case s1 => exact Kd.C_below HR.out HS.out.B); (case s2 => exact Hc.out); (case s3 => exact HF.out); rintro e_ w5 ⟨rfl, hb⟩; have HN := Lib.hid (show Sx w [(kj, #[.int .i64 j0, .int .i64 j1, .slice A2 lj.length c2], 27), (ko, #[.slice A1 lo.length c1, .int .i64 b], 24), (kl, #[.slice A0 l.length c0, .int .i64 a], 24)] [] w5 from HS.out.below hb); clear HS hb; have HS := Lib.hid HN.out; clear HN) | ((with_reducible refine gate_dst (N := 33) rfl ?_); refine gate_guard (by rfl) ?_; dsimp only; refine wpList_load_row rfl 24 (.tmp 5) rfl ko rfl 24 #[.slice A1 lo.length c1, .int .i64 b] (0, 0) _ (HS.out.get 1 rfl) Try.underlying24 rfl (by kernel_rfl) ?_) | ((with_reducible refine gate_dst (N := 33) rfl ?_); refine wpList_load_row rfl 24 (.tmp 5) rfl ko rfl 24 #[.slice A1 lo.length c1, .int .i64 b] (0, 0) _ (HS.out.get 1 rfl) Try.underlying24 rfl (by kernel_rfl) ?_) | (go_at_call 9; (with_reducible refine Calls.mono (trefoilref18_Few.calls K A1 c1 lo b false _ ?s1 ?s2 ?s3) ?_); (case s1 => exact Kd.C_below HR1.out HS.out.B); (case s2 => exact Hc1.out); (case s3 => exact HF1.out); rintro e_ w6 ⟨rfl, hb⟩; have HN := Lib.hid (show Sx w [(kj, #[.int .i64 j0, .int .i64 j1, .slice A2 lj.length c2], 27), (ko, #[.slice A1 lo.length c1, .int .i64 b], 24), (kl, #[.slice A0 l.length c0, .int .i64 a], 24)] [] w6 from HS.out.below hb); clear HS hb; have HS := Lib.hid HN.out; clear HN; have f2 : w6.cell? ⟨kj, 2, none⟩ = some (.slice A2 lj.length c2) := (blk_cell (HS.out.get 0 rfl) 2).trans rfl))
      go_ret
      exact ⟨rfl, HS.out.B⟩
    case pos =>
      have HF1 := Lib.hid (few_yes (a := b) (k := K) (by omega) cf1)
      have hl1 : lo.length ≤ 12 := cf1.1
      have HL1 := Lib.hid (show ∀ x ∈ lo, x.f2.length ≤ 1000 from fun x hx => by have := cf1.2 x hx; omega)
      have HO1 := Lib.hid (lown_eq (l := lo) (a := b) (k := K) (by omega) HL1.out (by omega))
      clear cf1
      by_cases cj : 70 < lj.length
      case pos =>
        have cjb : decide ((70 : Int) < (lj.length : Int)) = true := decide_eq_true (by omega)
        have cjb2 : decide (70 < lj.length) = true := decide_eq_true cj
        clear cj
        go_enter Try.func3, Try.ntmps3
        go_wp2_with (first | ((with_reducible refine gate_dst (N := 4) rfl ?_); refine box_event ?hg (N := 4) ?hd (cs := #[.slice A0 l.length c0, .int .i64 a]) (t := 24) ?hr ?_; (case hd => rfl); (case hg => rfl); (case hr => first | (go_simp; done) | (go_simp; rfl)); intro kl hE_ w1 hbox hb; have HN := Lib.hid (show Sx w [(kl, #[.slice A0 l.length c0, .int .i64 a], 24)] [] w1 from HS.out.box hE_ hbox hb); clear HS hE_ hbox hb; have HS := Lib.hid HN.out; clear HN) | ((with_reducible refine gate_dst (N := 5) rfl ?_); refine box_event ?hg (N := 5) ?hd (cs := #[.slice A1 lo.length c1, .int .i64 b]) (t := 24) ?hr ?_; (case hd => rfl); (case hg => rfl); (case hr => first | (go_simp; done) | (go_simp; rfl)); intro ko hE_ w2 hbox hb; have HN := Lib.hid (show Sx w [(ko, #[.slice A1 lo.length c1, .int .i64 b], 24), (kl, #[.slice A0 l.length c0, .int .i64 a], 24)] [] w2 from HS.out.box hE_ hbox hb); clear HS hE_ hbox hb; have HS := Lib.hid HN.out; clear HN) | ((with_reducible refine gate_dst (N := 6) rfl ?_); refine box_event ?hg (N := 6) ?hd (cs := #[.int .i64 j0, .int .i64 j1, .slice A2 lj.length c2]) (t := 27) ?hr ?_; (case hd => rfl); (case hg => rfl); (case hr => first | (go_simp; done) | (go_simp; rfl)); intro kj hE_ w3 hbox hb; have HN := Lib.hid (show Sx w [(kj, #[.int .i64 j0, .int .i64 j1, .slice A2 lj.length c2], 27), (ko, #[.slice A1 lo.length c1, .int .i64 b], 24), (kl, #[.slice A0 l.length c0, .int .i64 a], 24)] [] w3 from HS.out.box hE_ hbox hb); clear HS hE_ hbox hb; have HS := Lib.hid HN.out; clear HN) | (go_at_call 8; refine Calls.mono (lawake_calls _) ?_; rintro e_ w4 ⟨rfl, hb⟩; have HN := Lib.hid (show Sx w [(kj, #[.int .i64 j0, .int .i64 j1, .slice A2 lj.length c2], 27), (ko, #[.slice A1 lo.length c1, .int .i64 b], 24), (kl, #[.slice A0 l.length c0, .int .i64 a], 24)] [] w4 from HS.out.below hb); clear HS hb; have HS := Lib.hid HN.out; clear HN) | ((with_reducible refine gate_dst (N := 28) rfl ?_); refine gate_guard (by rfl) ?_; dsimp only; refine wpList_load_row rfl 24 (.tmp 4) rfl kl rfl 24 #[.slice A0 l.length c0, .int .i64 a] (0, 0) _ (HS.out.get 2 rfl) Try.underlying24 rfl (by kernel_rfl) ?_) | ((with_reducible refine gate_dst (N := 28) rfl ?_); refine wpList_load_row rfl 24 (.tmp 4) rfl kl rfl 24 #[.slice A0 l.length c0, .int .i64 a] (0, 0) _ (HS.out.get 2 rfl) Try.underlying24 rfl (by kernel_rfl) ?_) | (go_at_call 9; (with_reducible refine Calls.mono (trefoilref18_Few.calls K A0 c0 l a true _ ?s1 ?s2 ?s3) ?_); (case s1 => exact Kd.C_below HR.out HS.out.B); (case s2 => exact Hc.out); (case s3 => exact HF.out); rintro e_ w5 ⟨rfl, hb⟩; have HN := Lib.hid (show Sx w [(kj, #[.int .i64 j0, .int .i64 j1, .slice A2 lj.length c2], 27), (ko, #[.slice A1 lo.length c1, .int .i64 b], 24), (kl, #[.slice A0 l.length c0, .int .i64 a], 24)] [] w5 from HS.out.below hb); clear HS hb; have HS := Lib.hid HN.out; clear HN) | ((with_reducible refine gate_dst (N := 33) rfl ?_); refine gate_guard (by rfl) ?_; dsimp only; refine wpList_load_row rfl 24 (.tmp 5) rfl ko rfl 24 #[.slice A1 lo.length c1, .int .i64 b] (0, 0) _ (HS.out.get 1 rfl) Try.underlying24 rfl (by kernel_rfl) ?_) | ((with_reducible refine gate_dst (N := 33) rfl ?_); refine wpList_load_row rfl 24 (.tmp 5) rfl ko rfl 24 #[.slice A1 lo.length c1, .int .i64 b] (0, 0) _ (HS.out.get 1 rfl) Try.underlying24 rfl (by kernel_rfl) ?_) | (go_at_call 9; (with_reducible refine Calls.mono (trefoilref18_Few.calls K A1 c1 lo b true _ ?s1 ?s2 ?s3) ?_); (case s1 => exact Kd.C_below HR1.out HS.out.B); (case s2 => exact Hc1.out); (case s3 => exact HF1.out); rintro e_ w6 ⟨rfl, hb⟩; have HN := Lib.hid (show Sx w [(kj, #[.int .i64 j0, .int .i64 j1, .slice A2 lj.length c2], 27), (ko, #[.slice A1 lo.length c1, .int .i64 b], 24), (kl, #[.slice A0 l.length c0, .int .i64 a], 24)] [] w6 from HS.out.below hb); clear HS hb; have HS := Lib.hid HN.out; clear HN; have f2 : w6.cell? ⟨kj, 2, none⟩ = some (.slice A2 lj.length c2) := (blk_cell (HS.out.get 0 rfl) 2).trans rfl))
        go_ret
        exact ⟨rfl, HS.out.B⟩
      case neg =>
        have cjb : decide ((70 : Int) < (lj.length : Int)) = false := decide_eq_false (by omega)
        have cjb2 : decide (70 < lj.length) = false := decide_eq_false cj
        have Hlj := Lib.hid cj
        obtain ⟨X, RX, EX, hA, hA2, hXl⟩ := add_same (l := l) (run := a) (x0 := j0) (x1 := j1) (x2 := lj) (k := K) (by omega) HL.out (by omega) (by omega)
        obtain ⟨Y, RY, EY, hD, hD2, hYl⟩ := drop_same (l := l) (run := a) (t := task) (k := K) (by omega) HL.out (by omega)
        obtain ⟨T, RT, s0, s1, s2, ET, hT, hTl⟩ := tick_some (l := l) (run := a) (k := K) (by omega) (by omega)
        obtain ⟨CK, IS, WN, hC, hC2, hN, hCI, hN2, hN3⟩ := lane_tells (l := l) (run := a) (k := K) (by omega) HL.out (by omega)
        have HA := Lib.hid hA
        have HA2 := Lib.hid hA2
        have HXl := Lib.hid hXl
        have HD := Lib.hid hD
        have HD2 := Lib.hid hD2
        have HYl := Lib.hid hYl
        have HT := Lib.hid hT
        have HTl := Lib.hid hTl
        have HC := Lib.hid hC
        have HC2 := Lib.hid hC2
        have HN := Lib.hid hN
        have HCI := Lib.hid hCI
        have HN2 := Lib.hid hN2
        have HN3 := Lib.hid hN3
        have HNx := Lib.hid hN
        have HSa := Lib.hid (lsame_eq (l := l) (m := lo) (a := a) (b := b) (k := K) HL.out (by omega))
        clear cj hA hA2 hXl hD hD2 hYl hT hTl hC hC2 hN hCI hN2 hN3
        go_enter Try.func3, Try.ntmps3
        go_wp2_with (first | ((with_reducible refine gate_dst (N := 4) rfl ?_); refine box_event ?hg (N := 4) ?hd (cs := #[.slice A0 l.length c0, .int .i64 a]) (t := 24) ?hr ?_; (case hd => rfl); (case hg => rfl); (case hr => first | (go_simp; done) | (go_simp; rfl)); intro kl hE_ w1 hbox hb; have HN := Lib.hid (show Sx w [(kl, #[.slice A0 l.length c0, .int .i64 a], 24)] [] w1 from HS.out.box hE_ hbox hb); clear HS hE_ hbox hb; have HS := Lib.hid HN.out; clear HN) | ((with_reducible refine gate_dst (N := 5) rfl ?_); refine box_event ?hg (N := 5) ?hd (cs := #[.slice A1 lo.length c1, .int .i64 b]) (t := 24) ?hr ?_; (case hd => rfl); (case hg => rfl); (case hr => first | (go_simp; done) | (go_simp; rfl)); intro ko hE_ w2 hbox hb; have HN := Lib.hid (show Sx w [(ko, #[.slice A1 lo.length c1, .int .i64 b], 24), (kl, #[.slice A0 l.length c0, .int .i64 a], 24)] [] w2 from HS.out.box hE_ hbox hb); clear HS hE_ hbox hb; have HS := Lib.hid HN.out; clear HN) | ((with_reducible refine gate_dst (N := 6) rfl ?_); refine box_event ?hg (N := 6) ?hd (cs := #[.int .i64 j0, .int .i64 j1, .slice A2 lj.length c2]) (t := 27) ?hr ?_; (case hd => rfl); (case hg => rfl); (case hr => first | (go_simp; done) | (go_simp; rfl)); intro kj hE_ w3 hbox hb; have HN := Lib.hid (show Sx w [(kj, #[.int .i64 j0, .int .i64 j1, .slice A2 lj.length c2], 27), (ko, #[.slice A1 lo.length c1, .int .i64 b], 24), (kl, #[.slice A0 l.length c0, .int .i64 a], 24)] [] w3 from HS.out.box hE_ hbox hb); clear HS hE_ hbox hb; have HS := Lib.hid HN.out; clear HN) | (go_at_call 8; refine Calls.mono (lawake_calls _) ?_; rintro e_ w4 ⟨rfl, hb⟩; have HN := Lib.hid (show Sx w [(kj, #[.int .i64 j0, .int .i64 j1, .slice A2 lj.length c2], 27), (ko, #[.slice A1 lo.length c1, .int .i64 b], 24), (kl, #[.slice A0 l.length c0, .int .i64 a], 24)] [] w4 from HS.out.below hb); clear HS hb; have HS := Lib.hid HN.out; clear HN) | ((with_reducible refine gate_dst (N := 28) rfl ?_); refine gate_guard (by rfl) ?_; dsimp only; refine wpList_load_row rfl 24 (.tmp 4) rfl kl rfl 24 #[.slice A0 l.length c0, .int .i64 a] (0, 0) _ (HS.out.get 2 rfl) Try.underlying24 rfl (by kernel_rfl) ?_) | ((with_reducible refine gate_dst (N := 28) rfl ?_); refine wpList_load_row rfl 24 (.tmp 4) rfl kl rfl 24 #[.slice A0 l.length c0, .int .i64 a] (0, 0) _ (HS.out.get 2 rfl) Try.underlying24 rfl (by kernel_rfl) ?_) | (go_at_call 9; (with_reducible refine Calls.mono (trefoilref18_Few.calls K A0 c0 l a true _ ?s1 ?s2 ?s3) ?_); (case s1 => exact Kd.C_below HR.out HS.out.B); (case s2 => exact Hc.out); (case s3 => exact HF.out); rintro e_ w5 ⟨rfl, hb⟩; have HN := Lib.hid (show Sx w [(kj, #[.int .i64 j0, .int .i64 j1, .slice A2 lj.length c2], 27), (ko, #[.slice A1 lo.length c1, .int .i64 b], 24), (kl, #[.slice A0 l.length c0, .int .i64 a], 24)] [] w5 from HS.out.below hb); clear HS hb; have HS := Lib.hid HN.out; clear HN) | ((with_reducible refine gate_dst (N := 33) rfl ?_); refine gate_guard (by rfl) ?_; dsimp only; refine wpList_load_row rfl 24 (.tmp 5) rfl ko rfl 24 #[.slice A1 lo.length c1, .int .i64 b] (0, 0) _ (HS.out.get 1 rfl) Try.underlying24 rfl (by kernel_rfl) ?_) | ((with_reducible refine gate_dst (N := 33) rfl ?_); refine wpList_load_row rfl 24 (.tmp 5) rfl ko rfl 24 #[.slice A1 lo.length c1, .int .i64 b] (0, 0) _ (HS.out.get 1 rfl) Try.underlying24 rfl (by kernel_rfl) ?_) | (go_at_call 9; (with_reducible refine Calls.mono (trefoilref18_Few.calls K A1 c1 lo b true _ ?s1 ?s2 ?s3) ?_); (case s1 => exact Kd.C_below HR1.out HS.out.B); (case s2 => exact Hc1.out); (case s3 => exact HF1.out); rintro e_ w6 ⟨rfl, hb⟩; have HN := Lib.hid (show Sx w [(kj, #[.int .i64 j0, .int .i64 j1, .slice A2 lj.length c2], 27), (ko, #[.slice A1 lo.length c1, .int .i64 b], 24), (kl, #[.slice A0 l.length c0, .int .i64 a], 24)] [] w6 from HS.out.below hb); clear HS hb; have HS := Lib.hid HN.out; clear HN; have f2 : w6.cell? ⟨kj, 2, none⟩ = some (.slice A2 lj.length c2) := (blk_cell (HS.out.get 0 rfl) 2).trans rfl))
        clear f2
        go_cut [9, 10] (fun v9 v10 wc => ∃ (k9 : Nat) (Ax : Option Addr) (cx : Nat), v9 = .pointer (some ⟨k9, 0, none⟩) ∧ v10 = .int .i64 EX ∧ Aside0 (X.length ≤ cx) ∧ Aside0 (Sx w [(k9, #[.slice Ax X.length cx, .int .i64 RX], 24), (kj, #[.int .i64 j0, .int .i64 j1, .slice A2 lj.length c2], 27), (ko, #[.slice A1 lo.length c1, .int .i64 b], 24), (kl, #[.slice A0 l.length c0, .int .i64 a], 24)] [(fun W_ => Kd.C k27 W_ Ax X.length X)] wc))
        case first =>
          as_aux_lemma =>
            have HN := Lib.hid (HS.out.below (below_drew1 (Below.refl _ _)))
            clear HS
            have HS := Lib.hid HN.out
            clear HN
            refine start_ (n := 18) (S := fun W_ => W_.heap[kl]? = some (.cells #[.slice A0 l.length c0, .int .i64 a] 24 (0, 0)) ∧ W_.cell? ⟨kj, 0, none⟩ = some (.int .i64 j0) ∧ W_.cell? ⟨kj, 1, none⟩ = some (.int .i64 j1) ∧ W_.cell? ⟨kj, 2, none⟩ = some (.slice A2 lj.length c2)) (ds := []) (bz 18 0) (by kernel_rfl) rfl (by kernel_rfl) ⟨HS.out.get 2 rfl, bc_ (HS.out.get 0 rfl) 0, bc_ (HS.out.get 0 rfl) 1, bc_ (HS.out.get 0 rfl) 2⟩ (fun hHeld => ?_)
            refine tb_ (i := 0) (N := some 45) (bz 18 1) hHeld (v := .agg #[.slice A0 l.length c0, .int .i64 a]) (fun w' hs => run_load_row_ rfl kl rfl 24 _ _ hs.1 Try.underlying24 rfl (by kernel_rfl)) ?_
            refine pq_ (i := 2) (N := some 47) (bz 18 5) ?_
            refine tq_ (i := 3) (N := some 48) (bz 18 13) hHeld ?_
            refine pq_ (i := 4) (N := some 49) (bz 18 29) ?_
            refine tq_ (i := 5) (N := some 50) (bz 18 61) hHeld ?_
            refine pq_ (i := 7) (N := some 52) (bz 18 189) ?_
            refine tq_ (i := 8) (N := some 53) (bz 18 445) hHeld ?_
            refine three_ (l := (bz 18 445)) (i := 1) (j := 6) (k := 15) (Ni := some 46) (Nj := some 51) (Nk := some 9) (bz 18 447) (bz 18 509) (bz 18 33213) rfl rfl rfl rfl rfl rfl (by kernel_rfl) (by decide) (by decide) (by decide) (fun K_ hK => ?_) (fun K_ hK => ?_) (fun K_ hK => ?_)
            refine goes_ Try.func11 (by kernel_rfl) rfl #[.agg #[.slice A0 l.length c0, .int .i64 a]] (by rfl) rfl rfl (by (try simp only [List.map_toArray, List.map_cons, List.map_nil]); first | done | rfl) ?_
            refine Calls.mono (trefoillaw18_Own.calls K A0 c0 l a l a _ (Kd.C_below HR.out HS.out.B) Hc.out HO.out) ?_
            rintro e_ wb ⟨v_, rfl, hv_, hb⟩
            refine ⟨_, rfl, ?_⟩
            obtain ⟨Ao, co, rfl, hlo, hs_⟩ := HS.out.val hb (own_val hv_)
            have Ho := Lib.hid hlo
            have HN := Lib.hid hs_
            clear HS hb hv_ hs_ hlo
            have HS := Lib.hid HN.out
            clear HN
            refine hK.out _ _ ⟨HS.out.get 2 rfl, bc_ (HS.out.get 0 rfl) 0, bc_ (HS.out.get 0 rfl) 1, bc_ (HS.out.get 0 rfl) 2⟩ (fun hHeld => ?_)
            clear hK K_
            refine norm_ (a' := ?_) ?_ ?_
            rotate_left
            · show Act.put _ (some 46) _ = _
              simp only [Act.put, List.setIfInBounds_toArray, List.set_cons_zero, List.set_cons_succ, i64_w, i32_w]
              rfl
            rotate_left
            refine lit0_step (by rfl) rfl (t := 3) (by first | (go_simp; done) | (go_simp; rfl)) ?_
            intro gl hE_ wb hbox hb
            have HN := Lib.hid (HS.out.box hE_ hbox hb)
            clear HS hE_ hbox hb
            have HS := Lib.hid HN.out
            clear HN
            refine hK.out _ _ ⟨HS.out.get 3 rfl, bc_ (HS.out.get 1 rfl) 0, bc_ (HS.out.get 1 rfl) 1, bc_ (HS.out.get 1 rfl) 2⟩ (fun hHeld => ?_)
            clear hK K_
            refine norm_ (a' := ?_) ?_ ?_
            rotate_left
            · show Act.put _ (some 51) _ = _
              simp only [Act.put, List.setIfInBounds_toArray, List.set_cons_zero, List.set_cons_succ, i64_w, i32_w]
              rfl
            rotate_left
            refine boxed_step_ (by rfl) rfl (cs := #[.slice none 0 0, .int .i64 0]) (t := 24) (by first | (go_simp; done) | (go_simp; rfl)) ?_
            intro k9 hE_ wb hbox hb
            have HN := Lib.hid (HS.out.box hE_ hbox hb)
            clear HS hE_ hbox hb
            have HS := Lib.hid HN.out
            clear HN
            refine hK.out _ _ ⟨HS.out.get 3 rfl, bc_ (HS.out.get 1 rfl) 0, bc_ (HS.out.get 1 rfl) 1, bc_ (HS.out.get 1 rfl) 2⟩ (fun hHeld => ?_)
            clear hK K_
            refine norm_ (a' := ?_) ?_ ?_
            rotate_left
            · show Act.put _ (some 9) _ = _
              simp only [Act.put, List.setIfInBounds_toArray, List.set_cons_zero, List.set_cons_succ, i64_w, i32_w]
              rfl
            rotate_left
            all_goals (first
              | (refine two_ (l := (bz 18 447)) (i := 6) (j := 15) (Ni := some 51) (Nj := some 9) (bz 18 511) (bz 18 33215) rfl rfl rfl rfl (by kernel_rfl) (by decide) (by decide) (fun K_ hK => ?_) (fun K_ hK => ?_)
                 refine lit0_step (by rfl) rfl (t := 3) (by first | (go_simp; done) | (go_simp; rfl)) ?_
                 intro gl hE_ wb hbox hb
                 have HN := Lib.hid (HS.out.box hE_ hbox hb)
                 clear HS hE_ hbox hb
                 have HS := Lib.hid HN.out
                 clear HN
                 refine hK.out _ _ ⟨HS.out.get 3 rfl, bc_ (HS.out.get 1 rfl) 0, bc_ (HS.out.get 1 rfl) 1, bc_ (HS.out.get 1 rfl) 2⟩ (fun hHeld => ?_)
                 clear hK K_
                 refine norm_ (a' := ?_) ?_ ?_
                 rotate_left
                 · show Act.put _ (some 51) _ = _
                   simp only [Act.put, List.setIfInBounds_toArray, List.set_cons_zero, List.set_cons_succ, i64_w, i32_w]
                   rfl
                 rotate_left
                 refine boxed_step_ (by rfl) rfl (cs := #[.slice none 0 0, .int .i64 0]) (t := 24) (by first | (go_simp; done) | (go_simp; rfl)) ?_
                 intro k9 hE_ wb hbox hb
                 have HN := Lib.hid (HS.out.box hE_ hbox hb)
                 clear HS hE_ hbox hb
                 have HS := Lib.hid HN.out
                 clear HN
                 refine hK.out _ _ ⟨HS.out.get 3 rfl, bc_ (HS.out.get 1 rfl) 0, bc_ (HS.out.get 1 rfl) 1, bc_ (HS.out.get 1 rfl) 2⟩ (fun hHeld => ?_)
                 clear hK K_
                 refine norm_ (a' := ?_) ?_ ?_
                 rotate_left
                 · show Act.put _ (some 9) _ = _
                   simp only [Act.put, List.setIfInBounds_toArray, List.set_cons_zero, List.set_cons_succ, i64_w, i32_w]
                   rfl
                 rotate_left
                 )
              | (refine two_ (l := (bz 18 509)) (i := 1) (j := 15) (Ni := some 46) (Nj := some 9) (bz 18 511) (bz 18 33277) rfl rfl rfl rfl (by kernel_rfl) (by decide) (by decide) (fun K_ hK => ?_) (fun K_ hK => ?_)
                 refine goes_ Try.func11 (by kernel_rfl) rfl #[.agg #[.slice A0 l.length c0, .int .i64 a]] (by rfl) rfl rfl (by (try simp only [List.map_toArray, List.map_cons, List.map_nil]); first | done | rfl) ?_
                 refine Calls.mono (trefoillaw18_Own.calls K A0 c0 l a l a _ (Kd.C_below HR.out HS.out.B) Hc.out HO.out) ?_
                 rintro e_ wb ⟨v_, rfl, hv_, hb⟩
                 refine ⟨_, rfl, ?_⟩
                 obtain ⟨Ao, co, rfl, hlo, hs_⟩ := HS.out.val hb (own_val hv_)
                 have Ho := Lib.hid hlo
                 have HN := Lib.hid hs_
                 clear HS hb hv_ hs_ hlo
                 have HS := Lib.hid HN.out
                 clear HN
                 refine hK.out _ _ ⟨HS.out.get 3 rfl, bc_ (HS.out.get 1 rfl) 0, bc_ (HS.out.get 1 rfl) 1, bc_ (HS.out.get 1 rfl) 2⟩ (fun hHeld => ?_)
                 clear hK K_
                 refine norm_ (a' := ?_) ?_ ?_
                 rotate_left
                 · show Act.put _ (some 46) _ = _
                   simp only [Act.put, List.setIfInBounds_toArray, List.set_cons_zero, List.set_cons_succ, i64_w, i32_w]
                   rfl
                 rotate_left
                 refine boxed_step_ (by rfl) rfl (cs := #[.slice none 0 0, .int .i64 0]) (t := 24) (by first | (go_simp; done) | (go_simp; rfl)) ?_
                 intro k9 hE_ wb hbox hb
                 have HN := Lib.hid (HS.out.box hE_ hbox hb)
                 clear HS hE_ hbox hb
                 have HS := Lib.hid (show Sx w [(gl, #[], 3), (k9, #[.slice none 0 0, .int .i64 0], 24), (kj, #[.int .i64 j0, .int .i64 j1, .slice A2 lj.length c2], 27), (ko, #[.slice A1 lo.length c1, .int .i64 b], 24), (kl, #[.slice A0 l.length c0, .int .i64 a], 24)] [] _ from HN.out.perm (.trans (.swap _ _ _) (.cons _ (.refl _))) (.refl _))
                 clear HN
                 refine hK.out _ _ ⟨HS.out.get 4 rfl, bc_ (HS.out.get 2 rfl) 0, bc_ (HS.out.get 2 rfl) 1, bc_ (HS.out.get 2 rfl) 2⟩ (fun hHeld => ?_)
                 clear hK K_
                 refine norm_ (a' := ?_) ?_ ?_
                 rotate_left
                 · show Act.put _ (some 9) _ = _
                   simp only [Act.put, List.setIfInBounds_toArray, List.set_cons_zero, List.set_cons_succ, i64_w, i32_w]
                   rfl
                 rotate_left
                 )
              | (refine two_ (l := (bz 18 33213)) (i := 1) (j := 6) (Ni := some 46) (Nj := some 51) (bz 18 33215) (bz 18 33277) rfl rfl rfl rfl (by kernel_rfl) (by decide) (by decide) (fun K_ hK => ?_) (fun K_ hK => ?_)
                 refine goes_ Try.func11 (by kernel_rfl) rfl #[.agg #[.slice A0 l.length c0, .int .i64 a]] (by rfl) rfl rfl (by (try simp only [List.map_toArray, List.map_cons, List.map_nil]); first | done | rfl) ?_
                 refine Calls.mono (trefoillaw18_Own.calls K A0 c0 l a l a _ (Kd.C_below HR.out HS.out.B) Hc.out HO.out) ?_
                 rintro e_ wb ⟨v_, rfl, hv_, hb⟩
                 refine ⟨_, rfl, ?_⟩
                 obtain ⟨Ao, co, rfl, hlo, hs_⟩ := HS.out.val hb (own_val hv_)
                 have Ho := Lib.hid hlo
                 have HN := Lib.hid hs_
                 clear HS hb hv_ hs_ hlo
                 have HS := Lib.hid HN.out
                 clear HN
                 refine hK.out _ _ ⟨HS.out.get 3 rfl, bc_ (HS.out.get 1 rfl) 0, bc_ (HS.out.get 1 rfl) 1, bc_ (HS.out.get 1 rfl) 2⟩ (fun hHeld => ?_)
                 clear hK K_
                 refine norm_ (a' := ?_) ?_ ?_
                 rotate_left
                 · show Act.put _ (some 46) _ = _
                   simp only [Act.put, List.setIfInBounds_toArray, List.set_cons_zero, List.set_cons_succ, i64_w, i32_w]
                   rfl
                 rotate_left
                 refine lit0_step (by rfl) rfl (t := 3) (by first | (go_simp; done) | (go_simp; rfl)) ?_
                 intro gl hE_ wb hbox hb
                 have HN := Lib.hid (HS.out.box hE_ hbox hb)
                 clear HS hE_ hbox hb
                 have HS := Lib.hid HN.out
                 clear HN
                 refine hK.out _ _ ⟨HS.out.get 4 rfl, bc_ (HS.out.get 2 rfl) 0, bc_ (HS.out.get 2 rfl) 1, bc_ (HS.out.get 2 rfl) 2⟩ (fun hHeld => ?_)
                 clear hK K_
                 refine norm_ (a' := ?_) ?_ ?_
                 rotate_left
                 · show Act.put _ (some 51) _ = _
                   simp only [Act.put, List.setIfInBounds_toArray, List.set_cons_zero, List.set_cons_succ, i64_w, i32_w]
                   rfl
                 rotate_left
                 )
              )
            all_goals (first
              | (refine two_ (l := (bz 18 511)) (i := 9) (j := 15) (Ni := some 54) (Nj := some 9) (bz 18 1023) (bz 18 33279) rfl rfl rfl rfl (by kernel_rfl) (by decide) (by decide) (fun K_ hK => ?_) (fun K_ hK => ?_)
                 have HG := Lib.hid (show Sx w [(gl, #[], 3), (kj, #[.int .i64 j0, .int .i64 j1, .slice A2 lj.length c2], 27), (ko, #[.slice A1 lo.length c1, .int .i64 b], 24), (kl, #[.slice A0 l.length c0, .int .i64 a], 24)] [(fun W_ => Kd.C k27 W_ Ao l.length l)] _ from HS.out.perm (List.Perm.symm (.refl _)) (.refl _))
                 refine Kd.R_append_rows_step (Kd.int .i64) (w0 := w) w.heap.size (by rfl) (.tmp 51) (.tmp 53) 25 3 (.int .i64 0) 8 rfl Try.underlying25 info3 rfl (by decide) (by omega) (.slice (some ⟨gl, 0, none⟩) 0 0) [] lj _ _ _ (fun _ => True) (fun _ => False) rfl rfl ?aO ?aR (fun _ _ h => h) (fun _ h => h.elim) (fun _ _ => trivial) HS.out.B HS.out.B.size ?aL ?_
                 (case aO => exact lit0_R (HS.out.bx 0 _ rfl).2 (HS.out.get 0 rfl))
                 (case aR => exact Kd.C_below HR2.out HS.out.B)
                 (case aL => have := Hlj.out; simp; omega)
                 intro v_ wb hv_ hB_ hg_ hat_
                 clear hat_
                 rw [List.nil_append] at hv_
                 obtain ⟨Au, cu, rfl, hlu, hs_⟩ := HG.out.app hB_ hg_ hv_ rfl
                 have Hu := Lib.hid hlu
                 have HN := Lib.hid hs_
                 clear HS HG hv_ hB_ hg_ hs_ hlu
                 have HS := Lib.hid HN.out
                 clear HN
                 refine hK.out _ _ ⟨HS.out.get 2 rfl, bc_ (HS.out.get 0 rfl) 0, bc_ (HS.out.get 0 rfl) 1, bc_ (HS.out.get 0 rfl) 2⟩ (fun hHeld => ?_)
                 clear hK K_
                 refine norm_ (a' := ?_) ?_ ?_
                 rotate_left
                 · show Act.put _ (some 54) _ = _
                   simp only [Act.put, List.setIfInBounds_toArray, List.set_cons_zero, List.set_cons_succ, i64_w, i32_w]
                   rfl
                 refine pq_ (i := 10) (N := some 55) (bz 18 2047) ?_
                 rotate_left
                 refine boxed_step_ (by rfl) rfl (cs := #[.slice none 0 0, .int .i64 0]) (t := 24) (by first | (go_simp; done) | (go_simp; rfl)) ?_
                 intro k9 hE_ wb hbox hb
                 have HN := Lib.hid (HS.out.box hE_ hbox hb)
                 clear HS hE_ hbox hb
                 have HS := Lib.hid (show Sx w [(gl, #[], 3), (k9, #[.slice none 0 0, .int .i64 0], 24), (kj, #[.int .i64 j0, .int .i64 j1, .slice A2 lj.length c2], 27), (ko, #[.slice A1 lo.length c1, .int .i64 b], 24), (kl, #[.slice A0 l.length c0, .int .i64 a], 24)] [(fun W_ => Kd.C k27 W_ Ao l.length l)] _ from HN.out.perm (.trans (.swap _ _ _) (.cons _ (.refl _))) (.refl _))
                 clear HN
                 refine hK.out _ _ ⟨HS.out.get 4 rfl, bc_ (HS.out.get 2 rfl) 0, bc_ (HS.out.get 2 rfl) 1, bc_ (HS.out.get 2 rfl) 2⟩ (fun hHeld => ?_)
                 clear hK K_
                 refine norm_ (a' := ?_) ?_ ?_
                 rotate_left
                 · show Act.put _ (some 9) _ = _
                   simp only [Act.put, List.setIfInBounds_toArray, List.set_cons_zero, List.set_cons_succ, i64_w, i32_w]
                   rfl
                 rotate_left
                 )
              | (refine one_ (l := (bz 18 33215)) (i := 6) (N := some 51) (bz 18 33279) rfl rfl (by kernel_rfl) (by decide) (fun K_ hK => ?_)
                 refine lit0_step (by rfl) rfl (t := 3) (by first | (go_simp; done) | (go_simp; rfl)) ?_
                 intro gl hE_ wb hbox hb
                 have HN := Lib.hid (HS.out.box hE_ hbox hb)
                 clear HS hE_ hbox hb
                 have HS := Lib.hid HN.out
                 clear HN
                 refine hK.out _ _ ⟨HS.out.get 4 rfl, bc_ (HS.out.get 2 rfl) 0, bc_ (HS.out.get 2 rfl) 1, bc_ (HS.out.get 2 rfl) 2⟩ (fun hHeld => ?_)
                 clear hK K_
                 refine norm_ (a' := ?_) ?_ ?_
                 rotate_left
                 · show Act.put _ (some 51) _ = _
                   simp only [Act.put, List.setIfInBounds_toArray, List.set_cons_zero, List.set_cons_succ, i64_w, i32_w]
                   rfl
                 )
              | (refine one_ (l := (bz 18 33277)) (i := 1) (N := some 46) (bz 18 33279) rfl rfl (by kernel_rfl) (by decide) (fun K_ hK => ?_)
                 refine goes_ Try.func11 (by kernel_rfl) rfl #[.agg #[.slice A0 l.length c0, .int .i64 a]] (by rfl) rfl rfl (by (try simp only [List.map_toArray, List.map_cons, List.map_nil]); first | done | rfl) ?_
                 refine Calls.mono (trefoillaw18_Own.calls K A0 c0 l a l a _ (Kd.C_below HR.out HS.out.B) Hc.out HO.out) ?_
                 rintro e_ wb ⟨v_, rfl, hv_, hb⟩
                 refine ⟨_, rfl, ?_⟩
                 obtain ⟨Ao, co, rfl, hlo, hs_⟩ := HS.out.val hb (own_val hv_)
                 have Ho := Lib.hid hlo
                 have HN := Lib.hid hs_
                 clear HS hb hv_ hs_ hlo
                 have HS := Lib.hid HN.out
                 clear HN
                 refine hK.out _ _ ⟨HS.out.get 4 rfl, bc_ (HS.out.get 2 rfl) 0, bc_ (HS.out.get 2 rfl) 1, bc_ (HS.out.get 2 rfl) 2⟩ (fun hHeld => ?_)
                 clear hK K_
                 refine norm_ (a' := ?_) ?_ ?_
                 rotate_left
                 · show Act.put _ (some 46) _ = _
                   simp only [Act.put, List.setIfInBounds_toArray, List.set_cons_zero, List.set_cons_succ, i64_w, i32_w]
                   rfl
                 )
              )
            all_goals (first
              | (refine two_ (l := (bz 18 2047)) (i := 11) (j := 15) (Ni := some 56) (Nj := some 9) (bz 18 4095) (bz 18 34815) rfl rfl rfl rfl (by kernel_rfl) (by decide) (by decide) (fun K_ hK => ?_) (fun K_ hK => ?_)
                 refine goes_ Try.func10 (by kernel_rfl) rfl #[.agg #[.slice Ao l.length co, .int .i64 a], .agg #[.int .i64 j0, .int .i64 j1, .slice Au lj.length cu]] (by rfl) rfl rfl (by (try simp only [List.map_toArray, List.map_cons, List.map_nil]); first | done | rfl) ?_
                 refine Calls.mono (lane_Add.calls K Ao co l a j0 j1 Au cu lj X RX EX _ (HS.out.now 1 rfl) Ho.out (HS.out.now 0 rfl) Hu.out HA.out) ?_
                 rintro e_ wb ⟨v_, rfl, hv_, hb⟩
                 refine ⟨_, rfl, ?_⟩
                 obtain ⟨Ax, cx, rfl, hlx, hs_⟩ := HS.out.val hb hv_
                 have Hx := Lib.hid hlx
                 have HN := Lib.hid hs_
                 clear HS hb hv_ hs_ hlx
                 have HS := Lib.hid (show Sx w [(kj, #[.int .i64 j0, .int .i64 j1, .slice A2 lj.length c2], 27), (ko, #[.slice A1 lo.length c1, .int .i64 b], 24), (kl, #[.slice A0 l.length c0, .int .i64 a], 24)] [(fun W_ => Kd.C (Kd.int .i64) W_ Au lj.length lj), (fun W_ => Kd.C k27 W_ Ao l.length l), (fun W_ => Kd.C k27 W_ Ax X.length X)] _ from HN.out.perm (.refl _) (.trans (.swap _ _ _) (.cons _ (.trans (.swap _ _ _) (.cons _ (.refl _))))))
                 clear HN
                 refine hK.out _ _ ⟨HS.out.get 2 rfl, bc_ (HS.out.get 0 rfl) 0, bc_ (HS.out.get 0 rfl) 1, bc_ (HS.out.get 0 rfl) 2⟩ (fun hHeld => ?_)
                 clear hK K_
                 refine norm_ (a' := ?_) ?_ ?_
                 rotate_left
                 · show Act.put _ (some 56) _ = _
                   simp only [Act.put, List.setIfInBounds_toArray, List.set_cons_zero, List.set_cons_succ, i64_w, i32_w]
                   rfl
                 refine pq_ (i := 12) (N := some 44) (bz 18 8191) ?_
                 refine pq_ (i := 13) (N := some 57) (bz 18 16383) ?_
                 refine pq_ (i := 14) (N := some 58) (bz 18 32767) ?_
                 rotate_left
                 refine boxed_step_ (by rfl) rfl (cs := #[.slice none 0 0, .int .i64 0]) (t := 24) (by first | (go_simp; done) | (go_simp; rfl)) ?_
                 intro k9 hE_ wb hbox hb
                 have HN := Lib.hid (HS.out.box hE_ hbox hb)
                 clear HS hE_ hbox hb
                 have HS := Lib.hid HN.out
                 clear HN
                 refine hK.out _ _ ⟨HS.out.get 3 rfl, bc_ (HS.out.get 1 rfl) 0, bc_ (HS.out.get 1 rfl) 1, bc_ (HS.out.get 1 rfl) 2⟩ (fun hHeld => ?_)
                 clear hK K_
                 refine norm_ (a' := ?_) ?_ ?_
                 rotate_left
                 · show Act.put _ (some 9) _ = _
                   simp only [Act.put, List.setIfInBounds_toArray, List.set_cons_zero, List.set_cons_succ, i64_w, i32_w]
                   rfl
                 rotate_left
                 )
              | (refine one_ (l := (bz 18 33279)) (i := 9) (N := some 54) (bz 18 33791) rfl rfl (by kernel_rfl) (by decide) (fun K_ hK => ?_)
                 have HG := Lib.hid (show Sx w [(gl, #[], 3), (k9, #[.slice none 0 0, .int .i64 0], 24), (kj, #[.int .i64 j0, .int .i64 j1, .slice A2 lj.length c2], 27), (ko, #[.slice A1 lo.length c1, .int .i64 b], 24), (kl, #[.slice A0 l.length c0, .int .i64 a], 24)] [(fun W_ => Kd.C k27 W_ Ao l.length l)] _ from HS.out.perm (List.Perm.symm (.refl _)) (.refl _))
                 refine Kd.R_append_rows_step (Kd.int .i64) (w0 := w) w.heap.size (by rfl) (.tmp 51) (.tmp 53) 25 3 (.int .i64 0) 8 rfl Try.underlying25 info3 rfl (by decide) (by omega) (.slice (some ⟨gl, 0, none⟩) 0 0) [] lj _ _ _ (fun _ => True) (fun _ => False) rfl rfl ?aO ?aR (fun _ _ h => h) (fun _ h => h.elim) (fun _ _ => trivial) HS.out.B HS.out.B.size ?aL ?_
                 (case aO => exact lit0_R (HS.out.bx 0 _ rfl).2 (HS.out.get 0 rfl))
                 (case aR => exact Kd.C_below HR2.out HS.out.B)
                 (case aL => have := Hlj.out; simp; omega)
                 intro v_ wb hv_ hB_ hg_ hat_
                 clear hat_
                 rw [List.nil_append] at hv_
                 obtain ⟨Au, cu, rfl, hlu, hs_⟩ := HG.out.app hB_ hg_ hv_ rfl
                 have Hu := Lib.hid hlu
                 have HN := Lib.hid hs_
                 clear HS HG hv_ hB_ hg_ hs_ hlu
                 have HS := Lib.hid HN.out
                 clear HN
                 refine hK.out _ _ ⟨HS.out.get 3 rfl, bc_ (HS.out.get 1 rfl) 0, bc_ (HS.out.get 1 rfl) 1, bc_ (HS.out.get 1 rfl) 2⟩ (fun hHeld => ?_)
                 clear hK K_
                 refine norm_ (a' := ?_) ?_ ?_
                 rotate_left
                 · show Act.put _ (some 54) _ = _
                   simp only [Act.put, List.setIfInBounds_toArray, List.set_cons_zero, List.set_cons_succ, i64_w, i32_w]
                   rfl
                 refine pq_ (i := 10) (N := some 55) (bz 18 34815) ?_
                 )
              )
            all_goals (first
              | (refine one_ (l := (bz 18 32767)) (i := 15) (N := some 9) (bz 18 65535) rfl rfl (by kernel_rfl) (by decide) (fun K_ hK => ?_)
                 refine boxed_step_ (by rfl) rfl (cs := #[.slice none 0 0, .int .i64 0]) (t := 24) (by first | (go_simp; done) | (go_simp; rfl)) ?_
                 intro k9 hE_ wb hbox hb
                 have HN := Lib.hid (HS.out.box hE_ hbox hb)
                 clear HS hE_ hbox hb
                 have HS := Lib.hid HN.out
                 clear HN
                 refine hK.out _ _ ⟨HS.out.get 3 rfl, bc_ (HS.out.get 1 rfl) 0, bc_ (HS.out.get 1 rfl) 1, bc_ (HS.out.get 1 rfl) 2⟩ (fun hHeld => ?_)
                 clear hK K_
                 refine norm_ (a' := ?_) ?_ ?_
                 rotate_left
                 · show Act.put _ (some 9) _ = _
                   simp only [Act.put, List.setIfInBounds_toArray, List.set_cons_zero, List.set_cons_succ, i64_w, i32_w]
                   rfl
                 )
              | (refine one_ (l := (bz 18 34815)) (i := 11) (N := some 56) (bz 18 36863) rfl rfl (by kernel_rfl) (by decide) (fun K_ hK => ?_)
                 refine goes_ Try.func10 (by kernel_rfl) rfl #[.agg #[.slice Ao l.length co, .int .i64 a], .agg #[.int .i64 j0, .int .i64 j1, .slice Au lj.length cu]] (by rfl) rfl rfl (by (try simp only [List.map_toArray, List.map_cons, List.map_nil]); first | done | rfl) ?_
                 refine Calls.mono (lane_Add.calls K Ao co l a j0 j1 Au cu lj X RX EX _ (HS.out.now 1 rfl) Ho.out (HS.out.now 0 rfl) Hu.out HA.out) ?_
                 rintro e_ wb ⟨v_, rfl, hv_, hb⟩
                 refine ⟨_, rfl, ?_⟩
                 obtain ⟨Ax, cx, rfl, hlx, hs_⟩ := HS.out.val hb hv_
                 have Hx := Lib.hid hlx
                 have HN := Lib.hid hs_
                 clear HS hb hv_ hs_ hlx
                 have HS := Lib.hid (show Sx w [(k9, #[.slice none 0 0, .int .i64 0], 24), (kj, #[.int .i64 j0, .int .i64 j1, .slice A2 lj.length c2], 27), (ko, #[.slice A1 lo.length c1, .int .i64 b], 24), (kl, #[.slice A0 l.length c0, .int .i64 a], 24)] [(fun W_ => Kd.C (Kd.int .i64) W_ Au lj.length lj), (fun W_ => Kd.C k27 W_ Ao l.length l), (fun W_ => Kd.C k27 W_ Ax X.length X)] _ from HN.out.perm (.refl _) (.trans (.swap _ _ _) (.cons _ (.trans (.swap _ _ _) (.cons _ (.refl _))))))
                 clear HN
                 refine hK.out _ _ ⟨HS.out.get 3 rfl, bc_ (HS.out.get 1 rfl) 0, bc_ (HS.out.get 1 rfl) 1, bc_ (HS.out.get 1 rfl) 2⟩ (fun hHeld => ?_)
                 clear hK K_
                 refine norm_ (a' := ?_) ?_ ?_
                 rotate_left
                 · show Act.put _ (some 56) _ = _
                   simp only [Act.put, List.setIfInBounds_toArray, List.set_cons_zero, List.set_cons_succ, i64_w, i32_w]
                   rfl
                 refine pq_ (i := 12) (N := some 44) (bz 18 40959) ?_
                 refine pq_ (i := 13) (N := some 57) (bz 18 49151) ?_
                 refine pq_ (i := 14) (N := some 58) (bz 18 65535) ?_
                 )
              )
            all_goals (
              refine one_ (l := (bz 18 65535)) (i := 16) (N := none) (bz 18 131071) rfl rfl (by kernel_rfl) (by decide) (fun K_ hK => ?_)
              refine skip_ (by rfl) rfl (run_store_row_ rfl k9 rfl #[.slice Ax X.length cx, .int .i64 RX] #[.slice none 0 0, .int .i64 0] 24 (HS.out.get 0 rfl) rfl (by kernel_rfl) rfl rfl) ?_
              have HN := Lib.hid (show Sx w [(k9, #[.slice Ax X.length cx, .int .i64 RX], 24), (kj, #[.int .i64 j0, .int .i64 j1, .slice A2 lj.length c2], 27), (ko, #[.slice A1 lo.length c1, .int .i64 b], 24), (kl, #[.slice A0 l.length c0, .int .i64 a], 24)] [(fun W_ => Kd.C (Kd.int .i64) W_ Au lj.length lj), (fun W_ => Kd.C k27 W_ Ao l.length l), (fun W_ => Kd.C k27 W_ Ax X.length X)] _ from HS.out.row 0 rfl #[.slice Ax X.length cx, .int .i64 RX])
              clear HS
              have HS := Lib.hid HN.out
              clear HN
              refine hK.out _ _ ⟨HS.out.get 3 rfl, bc_ (HS.out.get 1 rfl) 0, bc_ (HS.out.get 1 rfl) 1, bc_ (HS.out.get 1 rfl) 2⟩ (fun hHeld => ?_)
              clear hK K_
              refine pq_ (i := 17) (N := some 10) (bz 18 262143) ?_
              )
            all_goals (refine done_ (by kernel_rfl) ?_)
            all_goals (
              try go_wp2
              go_meet
              exact ⟨k9, Ax, cx, rfl, rfl, ⟨Hx.out⟩, ⟨HS.out.lose.lose⟩⟩
              )
        case rest =>
          clear HS
          obtain ⟨k9, Ax, cx, rfl, rfl, Hx0, HS0⟩ := hcut
          have HS := Lib.hid HS0.out
          have Hx := Lib.hid Hx0.out
          clear HS0 Hx0
          apply_assumption
          refine wp_seq_k (fun K_ hK_ => ?_)
          go_cut [11, 12] (fun v11 v12 wc => ∃ (k11 : Nat) (Ab : Option Addr) (cb : Nat), v11 = .pointer (some ⟨k11, 0, none⟩) ∧ v12 = .int .i64 EX ∧ Aside0 (Sx w [(k11, #[.slice Ab X.length cb, .int .i64 RX], 24), (k9, #[.slice Ax X.length cx, .int .i64 RX], 24), (kj, #[.int .i64 j0, .int .i64 j1, .slice A2 lj.length c2], 27), (ko, #[.slice A1 lo.length c1, .int .i64 b], 24), (kl, #[.slice A0 l.length c0, .int .i64 a], 24)] [(fun W_ => Kd.C k27 W_ Ab X.length X), (fun W_ => Kd.C k27 W_ Ax X.length X)] wc))
          case first =>
            as_aux_lemma =>
              go_wp2_with (first | ((with_reducible refine gate_dst (N := 60) rfl ?_); refine wpList_load_row rfl 24 (.tmp 4) rfl kl rfl 24 #[.slice A0 l.length c0, .int .i64 a] (0, 0) _ (HS.out.get 3 rfl) Try.underlying24 rfl (by kernel_rfl) ?_) | ((with_reducible refine gate_dst (N := 61) rfl ?_); refine wpList_load_row rfl 27 (.tmp 6) rfl kj rfl 27 #[.int .i64 j0, .int .i64 j1, .slice A2 lj.length c2] (0, 0) _ (HS.out.get 1 rfl) Try.underlying27 rfl (by kernel_rfl) ?_) | (go_at_call 12; refine Calls.mono (trefoilref18_Add.calls K (fun k => k < w.heap.size) A0 c0 l a j0 j1 (fun k => k < w.heap.size) A2 c2 lj X RX EX _ (old_V HR.out Hc.out HS.out.B) (old_VI HR2.out Hc2.out HS.out.B) HA2.out) ?_; rintro e_ w21 ⟨v_, rfl, hv_, hb⟩; obtain ⟨Ab, cb, rfl, hl_, hs_⟩ := HS.out.val2 (base := 0) hb (Kd.V_mono (Kd.N_V hv_) (fun _ h => h.elim (fun h => .inl (h.elim id id)) .inr)); have Hb := Lib.hid hl_; have HN := Lib.hid (show Sx w [(k9, #[.slice Ax X.length cx, .int .i64 RX], 24), (kj, #[.int .i64 j0, .int .i64 j1, .slice A2 lj.length c2], 27), (ko, #[.slice A1 lo.length c1, .int .i64 b], 24), (kl, #[.slice A0 l.length c0, .int .i64 a], 24)] [(fun W_ => Kd.C k27 W_ Ab X.length X), (fun W_ => Kd.C k27 W_ Ax X.length X)] w21 from hs_); clear HS hb hv_ hs_ hl_; have HS := Lib.hid HN.out; clear HN) | ((with_reducible refine gate_dst (N := 11) rfl ?_); refine box_event ?hg (N := 11) ?hd (cs := #[.slice none 0 0, .int .i64 0]) (t := 24) ?hr ?_; (case hd => rfl); (case hg => rfl); (case hr => first | (go_simp; done) | (go_simp; rfl)); intro k11 hE_ w22 hbox hb; have HN := Lib.hid (show Sx w [(k11, #[.slice none 0 0, .int .i64 0], 24), (k9, #[.slice Ax X.length cx, .int .i64 RX], 24), (kj, #[.int .i64 j0, .int .i64 j1, .slice A2 lj.length c2], 27), (ko, #[.slice A1 lo.length c1, .int .i64 b], 24), (kl, #[.slice A0 l.length c0, .int .i64 a], 24)] [(fun W_ => Kd.C k27 W_ Ab X.length X), (fun W_ => Kd.C k27 W_ Ax X.length X)] w22 from HS.out.box hE_ hbox hb); clear HS hE_ hbox hb; have HS := Lib.hid HN.out; clear HN) | ((with_reducible refine gate_store (t := 24) (p := 11) (v := .tmp 63) ?hgs ?_); (case hgs => rfl); refine wpList_store_row rfl rfl 24 11 (.tmp 63) rfl k11 rfl #[.slice Ab X.length cb, .int .i64 RX] #[.slice none 0 0, .int .i64 0] 24 (HS.out.get 0 rfl) (by rfl) (by kernel_rfl) rfl (by rfl) (fun W_ => Sx w [(k11, #[.slice Ab X.length cb, .int .i64 RX], 24), (k9, #[.slice Ax X.length cx, .int .i64 RX], 24), (kj, #[.int .i64 j0, .int .i64 j1, .slice A2 lj.length c2], 27), (ko, #[.slice A1 lo.length c1, .int .i64 b], 24), (kl, #[.slice A0 l.length c0, .int .i64 a], 24)] [(fun W_ => Kd.C k27 W_ Ab X.length X), (fun W_ => Kd.C k27 W_ Ax X.length X)] W_) (HS.out.row 0 rfl #[.slice Ab X.length cb, .int .i64 RX]) ?_; rintro w23 he_; clear HS; have HS := Lib.hid he_; clear he_))
              go_meet
              exact ⟨k11, Ab, cb, rfl, rfl, ⟨HS.out⟩⟩
          case rest =>
          clear HS
          obtain ⟨k11, Ab, cb, rfl, rfl, HS0⟩ := hcut
          have HS := Lib.hid HS0.out
          clear HS0
          apply_assumption
          refine wp_seq_k (fun K_ hK_ => ?_)
          go_cut [13, 14] (fun v13 v14 wc => ∃ (k13 : Nat) (Ay : Option Addr) (cy : Nat), v13 = .pointer (some ⟨k13, 0, none⟩) ∧ v14 = .int .i64 EY ∧ Aside0 (Sx w [(k13, #[.slice Ay Y.length cy, .int .i64 RY], 24), (k11, #[.slice Ab X.length cb, .int .i64 RX], 24), (k9, #[.slice Ax X.length cx, .int .i64 RX], 24), (kj, #[.int .i64 j0, .int .i64 j1, .slice A2 lj.length c2], 27), (ko, #[.slice A1 lo.length c1, .int .i64 b], 24), (kl, #[.slice A0 l.length c0, .int .i64 a], 24)] [(fun W_ => Kd.C k27 W_ Ay Y.length Y), (fun W_ => Kd.C k27 W_ Ab X.length X), (fun W_ => Kd.C k27 W_ Ax X.length X)] wc))
          case first =>
            as_aux_lemma =>
              go_wp2_with (first | ((with_reducible refine gate_dst (N := 66) rfl ?_); refine wpList_load_row rfl 24 (.tmp 4) rfl kl rfl 24 #[.slice A0 l.length c0, .int .i64 a] (0, 0) _ (HS.out.get 4 rfl) Try.underlying24 rfl (by kernel_rfl) ?_) | (go_at_call 11; refine Calls.mono (trefoillaw18_Own.calls K A0 c0 l a l a _ (Kd.C_below HR.out HS.out.B) Hc.out HO.out) ?_; rintro e_ w24 ⟨v_, rfl, hv_, hb⟩; obtain ⟨Ap, cp, rfl, hl_, hs_⟩ := HS.out.val hb (own_val hv_); have Hp := Lib.hid hl_; have HN := Lib.hid (show Sx w [(k11, #[.slice Ab X.length cb, .int .i64 RX], 24), (k9, #[.slice Ax X.length cx, .int .i64 RX], 24), (kj, #[.int .i64 j0, .int .i64 j1, .slice A2 lj.length c2], 27), (ko, #[.slice A1 lo.length c1, .int .i64 b], 24), (kl, #[.slice A0 l.length c0, .int .i64 a], 24)] [(fun W_ => Kd.C k27 W_ Ap l.length l), (fun W_ => Kd.C k27 W_ Ab X.length X), (fun W_ => Kd.C k27 W_ Ax X.length X)] w24 from hs_); clear HS hb hv_ hs_ hl_; have HS := Lib.hid HN.out; clear HN) | (go_at_call 13; refine Calls.mono (lane_Drop.calls K Ap cp l a task Y RY EY _ (HS.out.now 0 rfl) Hp.out HD.out) ?_; rintro e_ w25 ⟨v_, rfl, hv_, hb⟩; obtain ⟨Ay, cy, rfl, hl_, hs_⟩ := HS.out.val hb hv_; have Hy := Lib.hid hl_; have HN := Lib.hid (show Sx w [(k11, #[.slice Ab X.length cb, .int .i64 RX], 24), (k9, #[.slice Ax X.length cx, .int .i64 RX], 24), (kj, #[.int .i64 j0, .int .i64 j1, .slice A2 lj.length c2], 27), (ko, #[.slice A1 lo.length c1, .int .i64 b], 24), (kl, #[.slice A0 l.length c0, .int .i64 a], 24)] [(fun W_ => Kd.C k27 W_ Ay Y.length Y), (fun W_ => Kd.C k27 W_ Ap l.length l), (fun W_ => Kd.C k27 W_ Ab X.length X), (fun W_ => Kd.C k27 W_ Ax X.length X)] w25 from hs_); clear HS hb hv_ hs_ hl_; have HS := Lib.hid HN.out; clear HN) | ((with_reducible refine gate_dst (N := 13) rfl ?_); refine box_event ?hg (N := 13) ?hd (cs := #[.slice none 0 0, .int .i64 0]) (t := 24) ?hr ?_; (case hd => rfl); (case hg => rfl); (case hr => first | (go_simp; done) | (go_simp; rfl)); intro k13 hE_ w26 hbox hb; have HN := Lib.hid (show Sx w [(k13, #[.slice none 0 0, .int .i64 0], 24), (k11, #[.slice Ab X.length cb, .int .i64 RX], 24), (k9, #[.slice Ax X.length cx, .int .i64 RX], 24), (kj, #[.int .i64 j0, .int .i64 j1, .slice A2 lj.length c2], 27), (ko, #[.slice A1 lo.length c1, .int .i64 b], 24), (kl, #[.slice A0 l.length c0, .int .i64 a], 24)] [(fun W_ => Kd.C k27 W_ Ay Y.length Y), (fun W_ => Kd.C k27 W_ Ap l.length l), (fun W_ => Kd.C k27 W_ Ab X.length X), (fun W_ => Kd.C k27 W_ Ax X.length X)] w26 from HS.out.box hE_ hbox hb); clear HS hE_ hbox hb; have HS := Lib.hid HN.out; clear HN) | ((with_reducible refine gate_store (t := 24) (p := 13) (v := .tmp 70) ?hgs ?_); (case hgs => rfl); refine wpList_store_row rfl rfl 24 13 (.tmp 70) rfl k13 rfl #[.slice Ay Y.length cy, .int .i64 RY] #[.slice none 0 0, .int .i64 0] 24 (HS.out.get 0 rfl) (by rfl) (by kernel_rfl) rfl (by rfl) (fun W_ => Sx w [(k13, #[.slice Ay Y.length cy, .int .i64 RY], 24), (k11, #[.slice Ab X.length cb, .int .i64 RX], 24), (k9, #[.slice Ax X.length cx, .int .i64 RX], 24), (kj, #[.int .i64 j0, .int .i64 j1, .slice A2 lj.length c2], 27), (ko, #[.slice A1 lo.length c1, .int .i64 b], 24), (kl, #[.slice A0 l.length c0, .int .i64 a], 24)] [(fun W_ => Kd.C k27 W_ Ay Y.length Y), (fun W_ => Kd.C k27 W_ Ap l.length l), (fun W_ => Kd.C k27 W_ Ab X.length X), (fun W_ => Kd.C k27 W_ Ax X.length X)] W_) (HS.out.row 0 rfl #[.slice Ay Y.length cy, .int .i64 RY]) ?_; rintro w27 he_; clear HS; have HS := Lib.hid he_; clear he_))
              go_meet
              exact ⟨k13, Ay, cy, rfl, rfl, ⟨(HS.out.perm (.refl _) (.swap _ _ _)).lose⟩⟩
          case rest =>
          clear HS
          obtain ⟨k13, Ay, cy, rfl, rfl, HS0⟩ := hcut
          have HS := Lib.hid HS0.out
          clear HS0
          apply_assumption
          refine wp_seq_k (fun K_ hK_ => ?_)
          go_cut [15, 16] (fun v15 v16 wc => ∃ (k15 : Nat) (Ad : Option Addr) (cd : Nat), v15 = .pointer (some ⟨k15, 0, none⟩) ∧ v16 = .int .i64 EY ∧ Aside0 (Sx w [(k15, #[.slice Ad Y.length cd, .int .i64 RY], 24), (k13, #[.slice Ay Y.length cy, .int .i64 RY], 24), (k11, #[.slice Ab X.length cb, .int .i64 RX], 24), (k9, #[.slice Ax X.length cx, .int .i64 RX], 24), (kj, #[.int .i64 j0, .int .i64 j1, .slice A2 lj.length c2], 27), (ko, #[.slice A1 lo.length c1, .int .i64 b], 24), (kl, #[.slice A0 l.length c0, .int .i64 a], 24)] [(fun W_ => Kd.C k27 W_ Ad Y.length Y), (fun W_ => Kd.C k27 W_ Ay Y.length Y), (fun W_ => Kd.C k27 W_ Ab X.length X), (fun W_ => Kd.C k27 W_ Ax X.length X)] wc))
          case first =>
            as_aux_lemma =>
              go_wp2_with (first | ((with_reducible refine gate_dst (N := 73) rfl ?_); refine wpList_load_row rfl 24 (.tmp 4) rfl kl rfl 24 #[.slice A0 l.length c0, .int .i64 a] (0, 0) _ (HS.out.get 5 rfl) Try.underlying24 rfl (by kernel_rfl) ?_) | (go_at_call 14; refine Calls.mono (trefoilref18_Drop.calls K (fun k => k < w.heap.size) A0 c0 l a task Y RY EY _ (old_V HR.out Hc.out HS.out.B) HD2.out) ?_; rintro e_ w28 ⟨v_, rfl, hv_, hb⟩; obtain ⟨Ad, cd, rfl, hl_, hs_⟩ := HS.out.val2 (base := 0) hb (Kd.V_mono (Kd.N_V hv_) (fun _ h => h)); have Hd := Lib.hid hl_; have HN := Lib.hid (show Sx w [(k13, #[.slice Ay Y.length cy, .int .i64 RY], 24), (k11, #[.slice Ab X.length cb, .int .i64 RX], 24), (k9, #[.slice Ax X.length cx, .int .i64 RX], 24), (kj, #[.int .i64 j0, .int .i64 j1, .slice A2 lj.length c2], 27), (ko, #[.slice A1 lo.length c1, .int .i64 b], 24), (kl, #[.slice A0 l.length c0, .int .i64 a], 24)] [(fun W_ => Kd.C k27 W_ Ad Y.length Y), (fun W_ => Kd.C k27 W_ Ay Y.length Y), (fun W_ => Kd.C k27 W_ Ab X.length X), (fun W_ => Kd.C k27 W_ Ax X.length X)] w28 from hs_); clear HS hb hv_ hs_ hl_; have HS := Lib.hid HN.out; clear HN) | ((with_reducible refine gate_dst (N := 15) rfl ?_); refine box_event ?hg (N := 15) ?hd (cs := #[.slice none 0 0, .int .i64 0]) (t := 24) ?hr ?_; (case hd => rfl); (case hg => rfl); (case hr => first | (go_simp; done) | (go_simp; rfl)); intro k15 hE_ w29 hbox hb; have HN := Lib.hid (show Sx w [(k15, #[.slice none 0 0, .int .i64 0], 24), (k13, #[.slice Ay Y.length cy, .int .i64 RY], 24), (k11, #[.slice Ab X.length cb, .int .i64 RX], 24), (k9, #[.slice Ax X.length cx, .int .i64 RX], 24), (kj, #[.int .i64 j0, .int .i64 j1, .slice A2 lj.length c2], 27), (ko, #[.slice A1 lo.length c1, .int .i64 b], 24), (kl, #[.slice A0 l.length c0, .int .i64 a], 24)] [(fun W_ => Kd.C k27 W_ Ad Y.length Y), (fun W_ => Kd.C k27 W_ Ay Y.length Y), (fun W_ => Kd.C k27 W_ Ab X.length X), (fun W_ => Kd.C k27 W_ Ax X.length X)] w29 from HS.out.box hE_ hbox hb); clear HS hE_ hbox hb; have HS := Lib.hid HN.out; clear HN) | ((with_reducible refine gate_store (t := 24) (p := 15) (v := .tmp 76) ?hgs ?_); (case hgs => rfl); refine wpList_store_row rfl rfl 24 15 (.tmp 76) rfl k15 rfl #[.slice Ad Y.length cd, .int .i64 RY] #[.slice none 0 0, .int .i64 0] 24 (HS.out.get 0 rfl) (by rfl) (by kernel_rfl) rfl (by rfl) (fun W_ => Sx w [(k15, #[.slice Ad Y.length cd, .int .i64 RY], 24), (k13, #[.slice Ay Y.length cy, .int .i64 RY], 24), (k11, #[.slice Ab X.length cb, .int .i64 RX], 24), (k9, #[.slice Ax X.length cx, .int .i64 RX], 24), (kj, #[.int .i64 j0, .int .i64 j1, .slice A2 lj.length c2], 27), (ko, #[.slice A1 lo.length c1, .int .i64 b], 24), (kl, #[.slice A0 l.length c0, .int .i64 a], 24)] [(fun W_ => Kd.C k27 W_ Ad Y.length Y), (fun W_ => Kd.C k27 W_ Ay Y.length Y), (fun W_ => Kd.C k27 W_ Ab X.length X), (fun W_ => Kd.C k27 W_ Ax X.length X)] W_) (HS.out.row 0 rfl #[.slice Ad Y.length cd, .int .i64 RY]) ?_; rintro w30 he_; clear HS; have HS := Lib.hid he_; clear he_))
              go_meet
              exact ⟨k15, Ad, cd, rfl, rfl, ⟨HS.out⟩⟩
          case rest =>
          clear HS
          obtain ⟨k15, Ad, cd, rfl, rfl, HS0⟩ := hcut
          have HS := Lib.hid HS0.out
          clear HS0
          apply_assumption
          refine wp_seq_k (fun K_ hK_ => ?_)
          go_cut [17, 18, 19] (fun v17 v18 v19 wc => ∃ (k17 : Nat) (k18 : Nat) (At : Option Addr) (ct : Nat), v17 = .pointer (some ⟨k17, 0, none⟩) ∧ v18 = .pointer (some ⟨k18, 0, none⟩) ∧ v19 = .int .i64 ET ∧ Aside0 (Sx w [(k18, #[.int .i64 s0, .bool s1, .bool s2], 36), (k17, #[.slice At T.length ct, .int .i64 RT], 24), (k15, #[.slice Ad Y.length cd, .int .i64 RY], 24), (k13, #[.slice Ay Y.length cy, .int .i64 RY], 24), (k11, #[.slice Ab X.length cb, .int .i64 RX], 24), (k9, #[.slice Ax X.length cx, .int .i64 RX], 24), (kj, #[.int .i64 j0, .int .i64 j1, .slice A2 lj.length c2], 27), (ko, #[.slice A1 lo.length c1, .int .i64 b], 24), (kl, #[.slice A0 l.length c0, .int .i64 a], 24)] [(fun W_ => Kd.C k27 W_ At T.length T), (fun W_ => Kd.C k27 W_ Ad Y.length Y), (fun W_ => Kd.C k27 W_ Ay Y.length Y), (fun W_ => Kd.C k27 W_ Ab X.length X), (fun W_ => Kd.C k27 W_ Ax X.length X)] wc))
          case first =>
            as_aux_lemma =>
              go_wp2_with (first | ((with_reducible refine gate_dst (N := 79) rfl ?_); refine wpList_load_row rfl 24 (.tmp 4) rfl kl rfl 24 #[.slice A0 l.length c0, .int .i64 a] (0, 0) _ (HS.out.get 6 rfl) Try.underlying24 rfl (by kernel_rfl) ?_) | (go_at_call 11; refine Calls.mono (trefoillaw18_Own.calls K A0 c0 l a l a _ (Kd.C_below HR.out HS.out.B) Hc.out HO.out) ?_; rintro e_ w31 ⟨v_, rfl, hv_, hb⟩; obtain ⟨Aq, cq, rfl, hl_, hs_⟩ := HS.out.val hb (own_val hv_); have Hq := Lib.hid hl_; have HN := Lib.hid (show Sx w [(k15, #[.slice Ad Y.length cd, .int .i64 RY], 24), (k13, #[.slice Ay Y.length cy, .int .i64 RY], 24), (k11, #[.slice Ab X.length cb, .int .i64 RX], 24), (k9, #[.slice Ax X.length cx, .int .i64 RX], 24), (kj, #[.int .i64 j0, .int .i64 j1, .slice A2 lj.length c2], 27), (ko, #[.slice A1 lo.length c1, .int .i64 b], 24), (kl, #[.slice A0 l.length c0, .int .i64 a], 24)] [(fun W_ => Kd.C k27 W_ Aq l.length l), (fun W_ => Kd.C k27 W_ Ad Y.length Y), (fun W_ => Kd.C k27 W_ Ay Y.length Y), (fun W_ => Kd.C k27 W_ Ab X.length X), (fun W_ => Kd.C k27 W_ Ax X.length X)] w31 from hs_); clear HS hb hv_ hs_ hl_; have HS := Lib.hid HN.out; clear HN) | (go_at_call 15; refine Calls.mono (lane_Tick.calls K Aq cq l a T RT s0 s1 s2 ET _ (HS.out.now 0 rfl) Hq.out HT.out) ?_; rintro e_ w32 ⟨v_, rfl, hv_, hb⟩; obtain ⟨At, ct, rfl, hl_, hs_⟩ := HS.out.val hb hv_; have Ht := Lib.hid hl_; have HN := Lib.hid (show Sx w [(k15, #[.slice Ad Y.length cd, .int .i64 RY], 24), (k13, #[.slice Ay Y.length cy, .int .i64 RY], 24), (k11, #[.slice Ab X.length cb, .int .i64 RX], 24), (k9, #[.slice Ax X.length cx, .int .i64 RX], 24), (kj, #[.int .i64 j0, .int .i64 j1, .slice A2 lj.length c2], 27), (ko, #[.slice A1 lo.length c1, .int .i64 b], 24), (kl, #[.slice A0 l.length c0, .int .i64 a], 24)] [(fun W_ => Kd.C k27 W_ At T.length T), (fun W_ => Kd.C k27 W_ Aq l.length l), (fun W_ => Kd.C k27 W_ Ad Y.length Y), (fun W_ => Kd.C k27 W_ Ay Y.length Y), (fun W_ => Kd.C k27 W_ Ab X.length X), (fun W_ => Kd.C k27 W_ Ax X.length X)] w32 from hs_); clear HS hb hv_ hs_ hl_; have HS := Lib.hid HN.out; clear HN) | ((with_reducible refine gate_dst (N := 17) rfl ?_); refine box_event ?hg (N := 17) ?hd (cs := #[.slice none 0 0, .int .i64 0]) (t := 24) ?hr ?_; (case hd => rfl); (case hg => rfl); (case hr => first | (go_simp; done) | (go_simp; rfl)); intro k17 hE_ w33 hbox hb; have HN := Lib.hid (show Sx w [(k17, #[.slice none 0 0, .int .i64 0], 24), (k15, #[.slice Ad Y.length cd, .int .i64 RY], 24), (k13, #[.slice Ay Y.length cy, .int .i64 RY], 24), (k11, #[.slice Ab X.length cb, .int .i64 RX], 24), (k9, #[.slice Ax X.length cx, .int .i64 RX], 24), (kj, #[.int .i64 j0, .int .i64 j1, .slice A2 lj.length c2], 27), (ko, #[.slice A1 lo.length c1, .int .i64 b], 24), (kl, #[.slice A0 l.length c0, .int .i64 a], 24)] [(fun W_ => Kd.C k27 W_ At T.length T), (fun W_ => Kd.C k27 W_ Aq l.length l), (fun W_ => Kd.C k27 W_ Ad Y.length Y), (fun W_ => Kd.C k27 W_ Ay Y.length Y), (fun W_ => Kd.C k27 W_ Ab X.length X), (fun W_ => Kd.C k27 W_ Ax X.length X)] w33 from HS.out.box hE_ hbox hb); clear HS hE_ hbox hb; have HS := Lib.hid HN.out; clear HN) | ((with_reducible refine gate_dst (N := 18) rfl ?_); refine box_event ?hg (N := 18) ?hd (cs := #[.int .i64 0, .bool false, .bool false]) (t := 36) ?hr ?_; (case hd => rfl); (case hg => rfl); (case hr => first | (go_simp; done) | (go_simp; rfl)); intro k18 hE_ w34 hbox hb; have HN := Lib.hid (show Sx w [(k18, #[.int .i64 0, .bool false, .bool false], 36), (k17, #[.slice none 0 0, .int .i64 0], 24), (k15, #[.slice Ad Y.length cd, .int .i64 RY], 24), (k13, #[.slice Ay Y.length cy, .int .i64 RY], 24), (k11, #[.slice Ab X.length cb, .int .i64 RX], 24), (k9, #[.slice Ax X.length cx, .int .i64 RX], 24), (kj, #[.int .i64 j0, .int .i64 j1, .slice A2 lj.length c2], 27), (ko, #[.slice A1 lo.length c1, .int .i64 b], 24), (kl, #[.slice A0 l.length c0, .int .i64 a], 24)] [(fun W_ => Kd.C k27 W_ At T.length T), (fun W_ => Kd.C k27 W_ Aq l.length l), (fun W_ => Kd.C k27 W_ Ad Y.length Y), (fun W_ => Kd.C k27 W_ Ay Y.length Y), (fun W_ => Kd.C k27 W_ Ab X.length X), (fun W_ => Kd.C k27 W_ Ax X.length X)] w34 from HS.out.box hE_ hbox hb); clear HS hE_ hbox hb; have HS := Lib.hid HN.out; clear HN) | ((with_reducible refine gate_store (t := 24) (p := 17) (v := .tmp 82) ?hgs ?_); (case hgs => rfl); refine wpList_store_row rfl rfl 24 17 (.tmp 82) rfl k17 rfl #[.slice At T.length ct, .int .i64 RT] #[.slice none 0 0, .int .i64 0] 24 (HS.out.get 1 rfl) (by rfl) (by kernel_rfl) rfl (by rfl) (fun W_ => Sx w [(k18, #[.int .i64 0, .bool false, .bool false], 36), (k17, #[.slice At T.length ct, .int .i64 RT], 24), (k15, #[.slice Ad Y.length cd, .int .i64 RY], 24), (k13, #[.slice Ay Y.length cy, .int .i64 RY], 24), (k11, #[.slice Ab X.length cb, .int .i64 RX], 24), (k9, #[.slice Ax X.length cx, .int .i64 RX], 24), (kj, #[.int .i64 j0, .int .i64 j1, .slice A2 lj.length c2], 27), (ko, #[.slice A1 lo.length c1, .int .i64 b], 24), (kl, #[.slice A0 l.length c0, .int .i64 a], 24)] [(fun W_ => Kd.C k27 W_ At T.length T), (fun W_ => Kd.C k27 W_ Aq l.length l), (fun W_ => Kd.C k27 W_ Ad Y.length Y), (fun W_ => Kd.C k27 W_ Ay Y.length Y), (fun W_ => Kd.C k27 W_ Ab X.length X), (fun W_ => Kd.C k27 W_ Ax X.length X)] W_) (HS.out.row 1 rfl #[.slice At T.length ct, .int .i64 RT]) ?_; rintro w35 he_; clear HS; have HS := Lib.hid he_; clear he_) | ((with_reducible refine gate_store (t := 36) (p := 18) (v := .tmp 83) ?hgs ?_); (case hgs => rfl); refine wpList_store_row rfl rfl 36 18 (.tmp 83) rfl k18 rfl #[.int .i64 s0, .bool s1, .bool s2] #[.int .i64 0, .bool false, .bool false] 36 (HS.out.get 0 rfl) (by rfl) (by kernel_rfl) rfl (by rfl) (fun W_ => Sx w [(k18, #[.int .i64 s0, .bool s1, .bool s2], 36), (k17, #[.slice At T.length ct, .int .i64 RT], 24), (k15, #[.slice Ad Y.length cd, .int .i64 RY], 24), (k13, #[.slice Ay Y.length cy, .int .i64 RY], 24), (k11, #[.slice Ab X.length cb, .int .i64 RX], 24), (k9, #[.slice Ax X.length cx, .int .i64 RX], 24), (kj, #[.int .i64 j0, .int .i64 j1, .slice A2 lj.length c2], 27), (ko, #[.slice A1 lo.length c1, .int .i64 b], 24), (kl, #[.slice A0 l.length c0, .int .i64 a], 24)] [(fun W_ => Kd.C k27 W_ At T.length T), (fun W_ => Kd.C k27 W_ Aq l.length l), (fun W_ => Kd.C k27 W_ Ad Y.length Y), (fun W_ => Kd.C k27 W_ Ay Y.length Y), (fun W_ => Kd.C k27 W_ Ab X.length X), (fun W_ => Kd.C k27 W_ Ax X.length X)] W_) (HS.out.row 0 rfl #[.int .i64 s0, .bool s1, .bool s2]) ?_; rintro w36 he_; clear HS; have HS := Lib.hid he_; clear he_))
              go_meet
              exact ⟨k17, k18, At, ct, rfl, rfl, rfl, ⟨(HS.out.perm (.refl _) (.swap _ _ _)).lose⟩⟩
          case rest =>
          clear HS
          obtain ⟨k17, k18, At, ct, rfl, rfl, rfl, HS0⟩ := hcut
          have HS := Lib.hid HS0.out
          clear HS0
          apply_assumption
          refine wp_seq_k (fun K_ hK_ => ?_)
          go_cut [20, 21, 22] (fun v20 v21 v22 wc => ∃ (k20 : Nat) (k21 : Nat) (Av : Option Addr) (cv : Nat), v20 = .pointer (some ⟨k20, 0, none⟩) ∧ v21 = .pointer (some ⟨k21, 0, none⟩) ∧ v22 = .int .i64 ET ∧ Aside0 (Sx w [(k21, #[.int .i64 s0, .bool s1, .bool s2], 36), (k20, #[.slice Av T.length cv, .int .i64 RT], 24), (k18, #[.int .i64 s0, .bool s1, .bool s2], 36), (k17, #[.slice At T.length ct, .int .i64 RT], 24), (k15, #[.slice Ad Y.length cd, .int .i64 RY], 24), (k13, #[.slice Ay Y.length cy, .int .i64 RY], 24), (k11, #[.slice Ab X.length cb, .int .i64 RX], 24), (k9, #[.slice Ax X.length cx, .int .i64 RX], 24), (kj, #[.int .i64 j0, .int .i64 j1, .slice A2 lj.length c2], 27), (ko, #[.slice A1 lo.length c1, .int .i64 b], 24), (kl, #[.slice A0 l.length c0, .int .i64 a], 24)] [(fun W_ => Kd.C k27 W_ Av T.length T), (fun W_ => Kd.C k27 W_ At T.length T), (fun W_ => Kd.C k27 W_ Ad Y.length Y), (fun W_ => Kd.C k27 W_ Ay Y.length Y), (fun W_ => Kd.C k27 W_ Ab X.length X), (fun W_ => Kd.C k27 W_ Ax X.length X)] wc))
          case first =>
            as_aux_lemma =>
              go_wp2_with (first | ((with_reducible refine gate_dst (N := 86) rfl ?_); refine wpList_load_row rfl 24 (.tmp 4) rfl kl rfl 24 #[.slice A0 l.length c0, .int .i64 a] (0, 0) _ (HS.out.get 8 rfl) Try.underlying24 rfl (by kernel_rfl) ?_) | (go_at_call 16; refine Calls.mono (rtick_calls (fun k => k < w.heap.size) A0 c0 l a _ (old_V HR.out Hc.out HS.out.B) hl HL.out K (by omega) T RT s0 s1 s2 ET HT.out) ?_; rintro e_ w37 ⟨v_, rfl, hv_, hb⟩; obtain ⟨Av, cv, rfl, hl_, hs_⟩ := HS.out.val2 hb hv_; have Hv := Lib.hid hl_; have HN := Lib.hid (show Sx w [(k18, #[.int .i64 s0, .bool s1, .bool s2], 36), (k17, #[.slice At T.length ct, .int .i64 RT], 24), (k15, #[.slice Ad Y.length cd, .int .i64 RY], 24), (k13, #[.slice Ay Y.length cy, .int .i64 RY], 24), (k11, #[.slice Ab X.length cb, .int .i64 RX], 24), (k9, #[.slice Ax X.length cx, .int .i64 RX], 24), (kj, #[.int .i64 j0, .int .i64 j1, .slice A2 lj.length c2], 27), (ko, #[.slice A1 lo.length c1, .int .i64 b], 24), (kl, #[.slice A0 l.length c0, .int .i64 a], 24)] [(fun W_ => Kd.C k27 W_ Av T.length T), (fun W_ => Kd.C k27 W_ At T.length T), (fun W_ => Kd.C k27 W_ Ad Y.length Y), (fun W_ => Kd.C k27 W_ Ay Y.length Y), (fun W_ => Kd.C k27 W_ Ab X.length X), (fun W_ => Kd.C k27 W_ Ax X.length X)] w37 from hs_); clear HS hb hv_ hs_ hl_; have HS := Lib.hid HN.out; clear HN) | ((with_reducible refine gate_dst (N := 20) rfl ?_); refine box_event ?hg (N := 20) ?hd (cs := #[.slice none 0 0, .int .i64 0]) (t := 24) ?hr ?_; (case hd => rfl); (case hg => rfl); (case hr => first | (go_simp; done) | (go_simp; rfl)); intro k20 hE_ w38 hbox hb; have HN := Lib.hid (show Sx w [(k20, #[.slice none 0 0, .int .i64 0], 24), (k18, #[.int .i64 s0, .bool s1, .bool s2], 36), (k17, #[.slice At T.length ct, .int .i64 RT], 24), (k15, #[.slice Ad Y.length cd, .int .i64 RY], 24), (k13, #[.slice Ay Y.length cy, .int .i64 RY], 24), (k11, #[.slice Ab X.length cb, .int .i64 RX], 24), (k9, #[.slice Ax X.length cx, .int .i64 RX], 24), (kj, #[.int .i64 j0, .int .i64 j1, .slice A2 lj.length c2], 27), (ko, #[.slice A1 lo.length c1, .int .i64 b], 24), (kl, #[.slice A0 l.length c0, .int .i64 a], 24)] [(fun W_ => Kd.C k27 W_ Av T.length T), (fun W_ => Kd.C k27 W_ At T.length T), (fun W_ => Kd.C k27 W_ Ad Y.length Y), (fun W_ => Kd.C k27 W_ Ay Y.length Y), (fun W_ => Kd.C k27 W_ Ab X.length X), (fun W_ => Kd.C k27 W_ Ax X.length X)] w38 from HS.out.box hE_ hbox hb); clear HS hE_ hbox hb; have HS := Lib.hid HN.out; clear HN) | ((with_reducible refine gate_dst (N := 21) rfl ?_); refine box_event ?hg (N := 21) ?hd (cs := #[.int .i64 0, .bool false, .bool false]) (t := 36) ?hr ?_; (case hd => rfl); (case hg => rfl); (case hr => first | (go_simp; done) | (go_simp; rfl)); intro k21 hE_ w39 hbox hb; have HN := Lib.hid (show Sx w [(k21, #[.int .i64 0, .bool false, .bool false], 36), (k20, #[.slice none 0 0, .int .i64 0], 24), (k18, #[.int .i64 s0, .bool s1, .bool s2], 36), (k17, #[.slice At T.length ct, .int .i64 RT], 24), (k15, #[.slice Ad Y.length cd, .int .i64 RY], 24), (k13, #[.slice Ay Y.length cy, .int .i64 RY], 24), (k11, #[.slice Ab X.length cb, .int .i64 RX], 24), (k9, #[.slice Ax X.length cx, .int .i64 RX], 24), (kj, #[.int .i64 j0, .int .i64 j1, .slice A2 lj.length c2], 27), (ko, #[.slice A1 lo.length c1, .int .i64 b], 24), (kl, #[.slice A0 l.length c0, .int .i64 a], 24)] [(fun W_ => Kd.C k27 W_ Av T.length T), (fun W_ => Kd.C k27 W_ At T.length T), (fun W_ => Kd.C k27 W_ Ad Y.length Y), (fun W_ => Kd.C k27 W_ Ay Y.length Y), (fun W_ => Kd.C k27 W_ Ab X.length X), (fun W_ => Kd.C k27 W_ Ax X.length X)] w39 from HS.out.box hE_ hbox hb); clear HS hE_ hbox hb; have HS := Lib.hid HN.out; clear HN) | ((with_reducible refine gate_store (t := 24) (p := 20) (v := .tmp 88) ?hgs ?_); (case hgs => rfl); refine wpList_store_row rfl rfl 24 20 (.tmp 88) rfl k20 rfl #[.slice Av T.length cv, .int .i64 RT] #[.slice none 0 0, .int .i64 0] 24 (HS.out.get 1 rfl) (by rfl) (by kernel_rfl) rfl (by rfl) (fun W_ => Sx w [(k21, #[.int .i64 0, .bool false, .bool false], 36), (k20, #[.slice Av T.length cv, .int .i64 RT], 24), (k18, #[.int .i64 s0, .bool s1, .bool s2], 36), (k17, #[.slice At T.length ct, .int .i64 RT], 24), (k15, #[.slice Ad Y.length cd, .int .i64 RY], 24), (k13, #[.slice Ay Y.length cy, .int .i64 RY], 24), (k11, #[.slice Ab X.length cb, .int .i64 RX], 24), (k9, #[.slice Ax X.length cx, .int .i64 RX], 24), (kj, #[.int .i64 j0, .int .i64 j1, .slice A2 lj.length c2], 27), (ko, #[.slice A1 lo.length c1, .int .i64 b], 24), (kl, #[.slice A0 l.length c0, .int .i64 a], 24)] [(fun W_ => Kd.C k27 W_ Av T.length T), (fun W_ => Kd.C k27 W_ At T.length T), (fun W_ => Kd.C k27 W_ Ad Y.length Y), (fun W_ => Kd.C k27 W_ Ay Y.length Y), (fun W_ => Kd.C k27 W_ Ab X.length X), (fun W_ => Kd.C k27 W_ Ax X.length X)] W_) (HS.out.row 1 rfl #[.slice Av T.length cv, .int .i64 RT]) ?_; rintro w40 he_; clear HS; have HS := Lib.hid he_; clear he_) | ((with_reducible refine gate_store (t := 36) (p := 21) (v := .tmp 89) ?hgs ?_); (case hgs => rfl); refine wpList_store_row rfl rfl 36 21 (.tmp 89) rfl k21 rfl #[.int .i64 s0, .bool s1, .bool s2] #[.int .i64 0, .bool false, .bool false] 36 (HS.out.get 0 rfl) (by rfl) (by kernel_rfl) rfl (by rfl) (fun W_ => Sx w [(k21, #[.int .i64 s0, .bool s1, .bool s2], 36), (k20, #[.slice Av T.length cv, .int .i64 RT], 24), (k18, #[.int .i64 s0, .bool s1, .bool s2], 36), (k17, #[.slice At T.length ct, .int .i64 RT], 24), (k15, #[.slice Ad Y.length cd, .int .i64 RY], 24), (k13, #[.slice Ay Y.length cy, .int .i64 RY], 24), (k11, #[.slice Ab X.length cb, .int .i64 RX], 24), (k9, #[.slice Ax X.length cx, .int .i64 RX], 24), (kj, #[.int .i64 j0, .int .i64 j1, .slice A2 lj.length c2], 27), (ko, #[.slice A1 lo.length c1, .int .i64 b], 24), (kl, #[.slice A0 l.length c0, .int .i64 a], 24)] [(fun W_ => Kd.C k27 W_ Av T.length T), (fun W_ => Kd.C k27 W_ At T.length T), (fun W_ => Kd.C k27 W_ Ad Y.length Y), (fun W_ => Kd.C k27 W_ Ay Y.length Y), (fun W_ => Kd.C k27 W_ Ab X.length X), (fun W_ => Kd.C k27 W_ Ax X.length X)] W_) (HS.out.row 0 rfl #[.int .i64 s0, .bool s1, .bool s2]) ?_; rintro w41 he_; clear HS; have HS := Lib.hid he_; clear he_))
              go_meet
              exact ⟨k20, k21, Av, cv, rfl, rfl, rfl, ⟨HS.out⟩⟩
          case rest =>
          clear HS
          obtain ⟨k20, k21, Av, cv, rfl, rfl, rfl, HS0⟩ := hcut
          have HS := Lib.hid HS0.out
          clear HS0
          apply_assumption
          refine wp_seq_k (fun K_ hK_ => ?_)
          go_cut [23, 24] (fun v23 v24 wc => v23 = .bool IS ∧ v24 = .int .i64 (-1) ∧ Aside0 (Sx w [(k21, #[.int .i64 s0, .bool s1, .bool s2], 36), (k20, #[.slice Av T.length cv, .int .i64 RT], 24), (k18, #[.int .i64 s0, .bool s1, .bool s2], 36), (k17, #[.slice At T.length ct, .int .i64 RT], 24), (k15, #[.slice Ad Y.length cd, .int .i64 RY], 24), (k13, #[.slice Ay Y.length cy, .int .i64 RY], 24), (k11, #[.slice Ab X.length cb, .int .i64 RX], 24), (k9, #[.slice Ax X.length cx, .int .i64 RX], 24), (kj, #[.int .i64 j0, .int .i64 j1, .slice A2 lj.length c2], 27), (ko, #[.slice A1 lo.length c1, .int .i64 b], 24), (kl, #[.slice A0 l.length c0, .int .i64 a], 24)] [(fun W_ => Kd.C k27 W_ Av T.length T), (fun W_ => Kd.C k27 W_ At T.length T), (fun W_ => Kd.C k27 W_ Ad Y.length Y), (fun W_ => Kd.C k27 W_ Ay Y.length Y), (fun W_ => Kd.C k27 W_ Ab X.length X), (fun W_ => Kd.C k27 W_ Ax X.length X)] wc))
          case first =>
            as_aux_lemma =>
              go_wp2_with (first | ((with_reducible refine gate_dst (N := 91) rfl ?_); refine wpList_load_row rfl 24 (.tmp 4) rfl kl rfl 24 #[.slice A0 l.length c0, .int .i64 a] (0, 0) _ (HS.out.get 10 rfl) Try.underlying24 rfl (by kernel_rfl) ?_) | (go_at_call 17; refine Calls.mono (trefoilref18_Check.calls K A0 c0 l a IS _ (Kd.C_below HR.out HS.out.B) Hc.out HC2.out) ?_; rintro e_ w42 ⟨rfl, hb⟩; have HN := Lib.hid (show Sx w [(k21, #[.int .i64 s0, .bool s1, .bool s2], 36), (k20, #[.slice Av T.length cv, .int .i64 RT], 24), (k18, #[.int .i64 s0, .bool s1, .bool s2], 36), (k17, #[.slice At T.length ct, .int .i64 RT], 24), (k15, #[.slice Ad Y.length cd, .int .i64 RY], 24), (k13, #[.slice Ay Y.length cy, .int .i64 RY], 24), (k11, #[.slice Ab X.length cb, .int .i64 RX], 24), (k9, #[.slice Ax X.length cx, .int .i64 RX], 24), (kj, #[.int .i64 j0, .int .i64 j1, .slice A2 lj.length c2], 27), (ko, #[.slice A1 lo.length c1, .int .i64 b], 24), (kl, #[.slice A0 l.length c0, .int .i64 a], 24)] [(fun W_ => Kd.C k27 W_ Av T.length T), (fun W_ => Kd.C k27 W_ At T.length T), (fun W_ => Kd.C k27 W_ Ad Y.length Y), (fun W_ => Kd.C k27 W_ Ay Y.length Y), (fun W_ => Kd.C k27 W_ Ab X.length X), (fun W_ => Kd.C k27 W_ Ax X.length X)] w42 from HS.out.below hb); clear HS hb; have HS := Lib.hid HN.out; clear HN))
              go_meet
              exact ⟨rfl, rfl, ⟨HS.out⟩⟩
          case rest =>
          clear HS
          obtain ⟨rfl, rfl, HS0⟩ := hcut
          have HS := Lib.hid HS0.out
          clear HS0
          apply_assumption
          refine wp_seq_k (fun K_ hK_ => ?_)
          go_cut [24] (fun v24 wc => v24 = .int .i64 WN ∧ Aside0 (Sx w [(k21, #[.int .i64 s0, .bool s1, .bool s2], 36), (k20, #[.slice Av T.length cv, .int .i64 RT], 24), (k18, #[.int .i64 s0, .bool s1, .bool s2], 36), (k17, #[.slice At T.length ct, .int .i64 RT], 24), (k15, #[.slice Ad Y.length cd, .int .i64 RY], 24), (k13, #[.slice Ay Y.length cy, .int .i64 RY], 24), (k11, #[.slice Ab X.length cb, .int .i64 RX], 24), (k9, #[.slice Ax X.length cx, .int .i64 RX], 24), (kj, #[.int .i64 j0, .int .i64 j1, .slice A2 lj.length c2], 27), (ko, #[.slice A1 lo.length c1, .int .i64 b], 24), (kl, #[.slice A0 l.length c0, .int .i64 a], 24)] [(fun W_ => Kd.C k27 W_ Av T.length T), (fun W_ => Kd.C k27 W_ At T.length T), (fun W_ => Kd.C k27 W_ Ad Y.length Y), (fun W_ => Kd.C k27 W_ Ay Y.length Y), (fun W_ => Kd.C k27 W_ Ab X.length X), (fun W_ => Kd.C k27 W_ Ax X.length X)] wc))
          case first =>
            cases IS with
            | true =>
              have HW := Lib.hid (HN2.out rfl)
              go_wp2_with (first | ((with_reducible refine gate_dst (N := 94) rfl ?_); refine wpList_load_row rfl 24 (.tmp 4) rfl kl rfl 24 #[.slice A0 l.length c0, .int .i64 a] (0, 0) _ (HS.out.get 10 rfl) Try.underlying24 rfl (by kernel_rfl) ?_) | (go_at_call 18; refine Calls.mono (trefoilref18_Next.calls K A0 c0 l a WN _ (Kd.C_below HR.out HS.out.B) Hc.out HW.out) ?_; rintro e_ w43 ⟨rfl, hb⟩; have HN := Lib.hid (show Sx w [(k21, #[.int .i64 s0, .bool s1, .bool s2], 36), (k20, #[.slice Av T.length cv, .int .i64 RT], 24), (k18, #[.int .i64 s0, .bool s1, .bool s2], 36), (k17, #[.slice At T.length ct, .int .i64 RT], 24), (k15, #[.slice Ad Y.length cd, .int .i64 RY], 24), (k13, #[.slice Ay Y.length cy, .int .i64 RY], 24), (k11, #[.slice Ab X.length cb, .int .i64 RX], 24), (k9, #[.slice Ax X.length cx, .int .i64 RX], 24), (kj, #[.int .i64 j0, .int .i64 j1, .slice A2 lj.length c2], 27), (ko, #[.slice A1 lo.length c1, .int .i64 b], 24), (kl, #[.slice A0 l.length c0, .int .i64 a], 24)] [(fun W_ => Kd.C k27 W_ Av T.length T), (fun W_ => Kd.C k27 W_ At T.length T), (fun W_ => Kd.C k27 W_ Ad Y.length Y), (fun W_ => Kd.C k27 W_ Ay Y.length Y), (fun W_ => Kd.C k27 W_ Ab X.length X), (fun W_ => Kd.C k27 W_ Ax X.length X)] w43 from HS.out.below hb); clear HS hb; have HS := Lib.hid HN.out; clear HN))
              go_meet
              exact ⟨rfl, ⟨HS.out⟩⟩
            | false =>
              obtain rfl : WN = -1 := HN3.out rfl
              go_wp2
              go_meet
              exact ⟨rfl, ⟨HS.out⟩⟩
          case rest =>
          clear HS
          obtain ⟨rfl, HS0⟩ := hcut
          have HS := Lib.hid HS0.out
          clear HS0
          go_wp2
          as_aux_lemma =>
            have HN := Lib.hid (HS.out.below (below_drew1 (Below.refl _ _)))
            clear HS
            have HS := Lib.hid HN.out
            clear HN
            refine start_ (n := 60) (S := fun W_ => W_.heap[k9]? = some (.cells #[.slice Ax X.length cx, .int .i64 RX] 24 (0, 0)) ∧ W_.heap[k11]? = some (.cells #[.slice Ab X.length cb, .int .i64 RX] 24 (0, 0)) ∧ W_.heap[k13]? = some (.cells #[.slice Ay Y.length cy, .int .i64 RY] 24 (0, 0)) ∧ W_.heap[k15]? = some (.cells #[.slice Ad Y.length cd, .int .i64 RY] 24 (0, 0)) ∧ W_.heap[k17]? = some (.cells #[.slice At T.length ct, .int .i64 RT] 24 (0, 0)) ∧ W_.heap[k20]? = some (.cells #[.slice Av T.length cv, .int .i64 RT] 24 (0, 0)) ∧ W_.heap[k18]? = some (.cells #[.int .i64 s0, .bool s1, .bool s2] 36 (0, 0)) ∧ W_.heap[k21]? = some (.cells #[.int .i64 s0, .bool s1, .bool s2] 36 (0, 0)) ∧ W_.heap[kl]? = some (.cells #[.slice A0 l.length c0, .int .i64 a] 24 (0, 0)) ∧ W_.heap[ko]? = some (.cells #[.slice A1 lo.length c1, .int .i64 b] 24 (0, 0))) (ds := []) (bz 60 0) (by kernel_rfl) rfl (by kernel_rfl) ⟨HS.out.get 7 rfl, HS.out.get 6 rfl, HS.out.get 5 rfl, HS.out.get 4 rfl, HS.out.get 3 rfl, HS.out.get 1 rfl, HS.out.get 2 rfl, HS.out.get 0 rfl, HS.out.get 10 rfl, HS.out.get 9 rfl⟩ (fun hHeld => ?_)
            refine tb_ (i := 0) (N := some 96) (bz 60 1) hHeld (v := .agg #[.slice Ax X.length cx, .int .i64 RX]) (fun w' hs => run_load_row_ rfl k9 rfl 24 _ _ hs.1 Try.underlying24 rfl (by kernel_rfl)) ?_
            refine tb_ (i := 1) (N := some 97) (bz 60 3) hHeld (v := .agg #[.slice Ab X.length cb, .int .i64 RX]) (fun w' hs => run_load_row_ rfl k11 rfl 24 _ _ hs.2.1 Try.underlying24 rfl (by kernel_rfl)) ?_
            refine one_ (l := (bz 60 3)) (i := 2) (N := some 98) (bz 60 7) rfl rfl (by kernel_rfl) (by decide) (fun K_ hK => ?_)
            refine goes_ Try.func19 (by kernel_rfl) rfl #[.agg #[.slice Ax X.length cx, .int .i64 RX], .agg #[.slice Ab X.length cb, .int .i64 RX]] (by rfl) rfl rfl (by (try simp only [List.map_toArray, List.map_cons, List.map_nil]); first | done | rfl) ?_
            refine Calls.mono (rsame_true (A0 := Ax) (c0 := cx) (l := X) (a := RX) (A1 := Ab) (c1 := cb) _ (HS.out.now 5 rfl) (HS.out.now 4 rfl) HXl.out) ?_
            rintro e_ wb ⟨rfl, hb⟩
            refine ⟨_, rfl, ?_⟩
            have HN := Lib.hid (HS.out.below hb)
            clear HS hb
            have HS := Lib.hid HN.out
            clear HN
            refine hK.out _ _ ⟨HS.out.get 7 rfl, HS.out.get 6 rfl, HS.out.get 5 rfl, HS.out.get 4 rfl, HS.out.get 3 rfl, HS.out.get 1 rfl, HS.out.get 2 rfl, HS.out.get 0 rfl, HS.out.get 10 rfl, HS.out.get 9 rfl⟩ (fun hHeld => ?_)
            clear hK K_
            refine norm_ (a' := ?_) ?_ ?_
            rotate_left
            · show Act.put _ (some 98) _ = _
              simp only [Act.put, List.setIfInBounds_toArray, List.set_cons_zero, List.set_cons_succ, i64_w, i32_w]
              rfl
            refine pq_ (i := 3) (N := some 99) (bz 60 15) ?_
            refine pq_ (i := 4) (N := some 100) (bz 60 31) ?_
            refine pq_ (i := 5) (N := some 101) (bz 60 63) ?_
            refine pq_ (i := 6) (N := some 102) (bz 60 127) ?_
            refine pq_ (i := 7) (N := some 103) (bz 60 255) ?_
            refine pq_ (i := 8) (N := some 104) (bz 60 511) ?_
            refine tb_ (i := 9) (N := some 105) (bz 60 1023) hHeld (v := .agg #[.slice Ay Y.length cy, .int .i64 RY]) (fun w' hs => run_load_row_ rfl k13 rfl 24 _ _ hs.2.2.1 Try.underlying24 rfl (by kernel_rfl)) ?_
            refine tb_ (i := 10) (N := some 106) (bz 60 2047) hHeld (v := .agg #[.slice Ad Y.length cd, .int .i64 RY]) (fun w' hs => run_load_row_ rfl k15 rfl 24 _ _ hs.2.2.2.1 Try.underlying24 rfl (by kernel_rfl)) ?_
            refine one_ (l := (bz 60 2047)) (i := 11) (N := some 107) (bz 60 4095) rfl rfl (by kernel_rfl) (by decide) (fun K_ hK => ?_)
            refine goes_ Try.func19 (by kernel_rfl) rfl #[.agg #[.slice Ay Y.length cy, .int .i64 RY], .agg #[.slice Ad Y.length cd, .int .i64 RY]] (by rfl) rfl rfl (by (try simp only [List.map_toArray, List.map_cons, List.map_nil]); first | done | rfl) ?_
            refine Calls.mono (rsame_true (A0 := Ay) (c0 := cy) (l := Y) (a := RY) (A1 := Ad) (c1 := cd) _ (HS.out.now 3 rfl) (HS.out.now 2 rfl) HYl.out) ?_
            rintro e_ wb ⟨rfl, hb⟩
            refine ⟨_, rfl, ?_⟩
            have HN := Lib.hid (HS.out.below hb)
            clear HS hb
            have HS := Lib.hid HN.out
            clear HN
            refine hK.out _ _ ⟨HS.out.get 7 rfl, HS.out.get 6 rfl, HS.out.get 5 rfl, HS.out.get 4 rfl, HS.out.get 3 rfl, HS.out.get 1 rfl, HS.out.get 2 rfl, HS.out.get 0 rfl, HS.out.get 10 rfl, HS.out.get 9 rfl⟩ (fun hHeld => ?_)
            clear hK K_
            refine norm_ (a' := ?_) ?_ ?_
            rotate_left
            · show Act.put _ (some 107) _ = _
              simp only [Act.put, List.setIfInBounds_toArray, List.set_cons_zero, List.set_cons_succ, i64_w, i32_w]
              rfl
            refine pq_ (i := 12) (N := some 108) (bz 60 8191) ?_
            refine pq_ (i := 13) (N := some 109) (bz 60 16383) ?_
            refine pq_ (i := 14) (N := some 110) (bz 60 32767) ?_
            refine pq_ (i := 15) (N := some 111) (bz 60 65535) ?_
            refine pq_ (i := 16) (N := some 112) (bz 60 131071) ?_
            refine pq_ (i := 17) (N := some 113) (bz 60 262143) ?_
            refine pq_ (i := 18) (N := some 114) (bz 60 524287) ?_
            refine tb_ (i := 19) (N := some 115) (bz 60 1048575) hHeld (v := .agg #[.slice At T.length ct, .int .i64 RT]) (fun w' hs => run_load_row_ rfl k17 rfl 24 _ _ hs.2.2.2.2.1 Try.underlying24 rfl (by kernel_rfl)) ?_
            refine tb_ (i := 20) (N := some 116) (bz 60 2097151) hHeld (v := .agg #[.slice Av T.length cv, .int .i64 RT]) (fun w' hs => run_load_row_ rfl k20 rfl 24 _ _ hs.2.2.2.2.2.1 Try.underlying24 rfl (by kernel_rfl)) ?_
            as_aux_lemma =>
              refine one_ (l := (bz 60 2097151)) (i := 21) (N := some 117) (bz 60 4194303) rfl rfl (by kernel_rfl) (by decide) (fun K_ hK => ?_)
              refine goes_ Try.func19 (by kernel_rfl) rfl #[.agg #[.slice At T.length ct, .int .i64 RT], .agg #[.slice Av T.length cv, .int .i64 RT]] (by rfl) rfl rfl (by (try simp only [List.map_toArray, List.map_cons, List.map_nil]); first | done | rfl) ?_
              refine Calls.mono (rsame_true (A0 := At) (c0 := ct) (l := T) (a := RT) (A1 := Av) (c1 := cv) _ (HS.out.now 1 rfl) (HS.out.now 0 rfl) HTl.out) ?_
              rintro e_ wb ⟨rfl, hb⟩
              refine ⟨_, rfl, ?_⟩
              have HN := Lib.hid (HS.out.below hb)
              clear HS hb
              have HS := Lib.hid HN.out
              clear HN
              refine hK.out _ _ ⟨HS.out.get 7 rfl, HS.out.get 6 rfl, HS.out.get 5 rfl, HS.out.get 4 rfl, HS.out.get 3 rfl, HS.out.get 1 rfl, HS.out.get 2 rfl, HS.out.get 0 rfl, HS.out.get 10 rfl, HS.out.get 9 rfl⟩ (fun hHeld => ?_)
              clear hK K_
              refine norm_ (a' := ?_) ?_ ?_
              rotate_left
              · show Act.put _ (some 117) _ = _
                simp only [Act.put, List.setIfInBounds_toArray, List.set_cons_zero, List.set_cons_succ, i64_w, i32_w]
                rfl
              refine pq_ (i := 22) (N := some 118) (bz 60 8388607) ?_
              refine pq_ (i := 23) (N := some 119) (bz 60 16777215) ?_
              refine tb_ (i := 24) (N := some 120) (bz 60 33554431) hHeld (v := .agg #[.int .i64 s0, .bool s1, .bool s2]) (fun w' hs => run_load_row_ rfl k18 rfl 36 _ _ hs.2.2.2.2.2.2.1 Try.underlying36 rfl (by kernel_rfl)) ?_
              refine tb_ (i := 25) (N := some 121) (bz 60 67108863) hHeld (v := .agg #[.int .i64 s0, .bool s1, .bool s2]) (fun w' hs => run_load_row_ rfl k21 rfl 36 _ _ hs.2.2.2.2.2.2.2.1 Try.underlying36 rfl (by kernel_rfl)) ?_
              refine pq_ (i := 26) (N := some 122) (bz 60 134217727) ?_
              refine pq_ (i := 27) (N := some 123) (bz 60 268435455) ?_
              refine pq_ (i := 28) (N := some 124) (bz 60 536870911) ?_
              refine pq_ (i := 29) (N := some 125) (bz 60 1073741823) ?_
              refine pq_ (i := 30) (N := some 126) (bz 60 2147483647) ?_
              refine pq_ (i := 31) (N := some 127) (bz 60 4294967295) ?_
              refine pq_ (i := 32) (N := some 128) (bz 60 8589934591) ?_
              refine pq_ (i := 33) (N := some 129) (bz 60 17179869183) ?_
              refine tb_ (i := 34) (N := some 130) (bz 60 34359738367) hHeld (v := .agg #[.slice A0 l.length c0, .int .i64 a]) (fun w' hs => run_load_row_ rfl kl rfl 24 _ _ hs.2.2.2.2.2.2.2.2.1 Try.underlying24 rfl (by kernel_rfl)) ?_
              refine pq_ (i := 37) (N := some 133) (bz 60 171798691839) ?_
              as_aux_lemma =>
                refine one_ (l := (bz 60 171798691839)) (i := 35) (N := some 131) (bz 60 206158430207) rfl rfl (by kernel_rfl) (by decide) (fun K_ hK => ?_)
                refine goes_ Try.func11 (by kernel_rfl) rfl #[.agg #[.slice A0 l.length c0, .int .i64 a]] (by rfl) rfl rfl (by (try simp only [List.map_toArray, List.map_cons, List.map_nil]); first | done | rfl) ?_
                refine Calls.mono (trefoillaw18_Own.calls K A0 c0 l a l a _ (Kd.C_below HR.out HS.out.B) Hc.out HO.out) ?_
                rintro e_ wb ⟨v_, rfl, hv_, hb⟩
                refine ⟨_, rfl, ?_⟩
                obtain ⟨Ae, ce, rfl, hlo2, hs_⟩ := HS.out.val hb (own_val hv_)
                have Ho2 := Lib.hid hlo2
                have HN := Lib.hid hs_
                clear HS hb hv_ hs_ hlo2
                have HS := Lib.hid HN.out
                clear HN
                refine hK.out _ _ ⟨HS.out.get 7 rfl, HS.out.get 6 rfl, HS.out.get 5 rfl, HS.out.get 4 rfl, HS.out.get 3 rfl, HS.out.get 1 rfl, HS.out.get 2 rfl, HS.out.get 0 rfl, HS.out.get 10 rfl, HS.out.get 9 rfl⟩ (fun hHeld => ?_)
                clear hK K_
                refine norm_ (a' := ?_) ?_ ?_
                rotate_left
                · show Act.put _ (some 131) _ = _
                  simp only [Act.put, List.setIfInBounds_toArray, List.set_cons_zero, List.set_cons_succ, i64_w, i32_w]
                  rfl
                refine one_ (l := (bz 60 206158430207)) (i := 36) (N := some 132) (bz 60 274877906943) rfl rfl (by kernel_rfl) (by decide) (fun K_ hK => ?_)
                refine goes_ Try.func20 (by kernel_rfl) rfl #[.agg #[.slice Ae l.length ce, .int .i64 a]] (by rfl) rfl rfl (by (try simp only [List.map_toArray, List.map_cons, List.map_nil]); first | done | rfl) ?_
                refine Calls.mono (lane_Next.calls K Ae ce l a WN _ (HS.out.now 0 rfl) Ho2.out HNx.out) ?_
                rintro e_ wb ⟨rfl, hb⟩
                refine ⟨_, rfl, ?_⟩
                have HN := Lib.hid (HS.out.below hb)
                clear HS hb
                have HS := Lib.hid HN.out
                clear HN
                refine hK.out _ _ ⟨HS.out.get 7 rfl, HS.out.get 6 rfl, HS.out.get 5 rfl, HS.out.get 4 rfl, HS.out.get 3 rfl, HS.out.get 1 rfl, HS.out.get 2 rfl, HS.out.get 0 rfl, HS.out.get 10 rfl, HS.out.get 9 rfl⟩ (fun hHeld => ?_)
                clear hK K_
                refine norm_ (a' := ?_) ?_ ?_
                rotate_left
                · show Act.put _ (some 132) _ = _
                  simp only [Act.put, List.setIfInBounds_toArray, List.set_cons_zero, List.set_cons_succ, i64_w, i32_w]
                  rfl
                refine pq_ (i := 38) (N := some 134) (bz 60 549755813887) ?_
                refine pq_ (i := 39) (N := some 135) (bz 60 1099511627775) ?_
                refine pq_ (i := 40) (N := some 136) (bz 60 2199023255551) ?_
                refine tb_ (i := 41) (N := some 137) (bz 60 4398046511103) hHeld (v := .agg #[.slice A0 l.length c0, .int .i64 a]) (fun w' hs => run_load_row_ rfl kl rfl 24 _ _ hs.2.2.2.2.2.2.2.2.1 Try.underlying24 rfl (by kernel_rfl)) ?_
                refine pq_ (i := 45) (N := some 141) (bz 60 39582418599935) ?_
                as_aux_lemma =>
                  refine one_ (l := (bz 60 39582418599935)) (i := 42) (N := some 138) (bz 60 43980465111039) rfl rfl (by kernel_rfl) (by decide) (fun K_ hK => ?_)
                  refine goes_ Try.func11 (by kernel_rfl) rfl #[.agg #[.slice A0 l.length c0, .int .i64 a]] (by rfl) rfl rfl (by (try simp only [List.map_toArray, List.map_cons, List.map_nil]); first | done | rfl) ?_
                  refine Calls.mono (trefoillaw18_Own.calls K A0 c0 l a l a _ (Kd.C_below HR.out HS.out.B) Hc.out HO.out) ?_
                  rintro e_ wb ⟨v_, rfl, hv_, hb⟩
                  refine ⟨_, rfl, ?_⟩
                  obtain ⟨Af, cf, rfl, hlo3, hs_⟩ := HS.out.val hb (own_val hv_)
                  have Ho3 := Lib.hid hlo3
                  have HN := Lib.hid hs_
                  clear HS hb hv_ hs_ hlo3
                  have HS := Lib.hid HN.out
                  clear HN
                  refine hK.out _ _ ⟨HS.out.get 7 rfl, HS.out.get 6 rfl, HS.out.get 5 rfl, HS.out.get 4 rfl, HS.out.get 3 rfl, HS.out.get 1 rfl, HS.out.get 2 rfl, HS.out.get 0 rfl, HS.out.get 10 rfl, HS.out.get 9 rfl⟩ (fun hHeld => ?_)
                  clear hK K_
                  refine norm_ (a' := ?_) ?_ ?_
                  rotate_left
                  · show Act.put _ (some 138) _ = _
                    simp only [Act.put, List.setIfInBounds_toArray, List.set_cons_zero, List.set_cons_succ, i64_w, i32_w]
                    rfl
                  refine one_ (l := (bz 60 43980465111039)) (i := 43) (N := some 139) (bz 60 52776558133247) rfl rfl (by kernel_rfl) (by decide) (fun K_ hK => ?_)
                  refine goes_ Try.func21 (by kernel_rfl) rfl #[.agg #[.slice Af l.length cf, .int .i64 a]] (by rfl) rfl rfl (by (try simp only [List.map_toArray, List.map_cons, List.map_nil]); first | done | rfl) ?_
                  refine Calls.mono (lane_Check.calls K Af cf l a CK _ (HS.out.now 0 rfl) Ho3.out HC.out) ?_
                  rintro e_ wb ⟨rfl, hb⟩
                  refine ⟨_, rfl, ?_⟩
                  have HN := Lib.hid (HS.out.below hb)
                  clear HS hb
                  have HS := Lib.hid HN.out
                  clear HN
                  refine hK.out _ _ ⟨HS.out.get 7 rfl, HS.out.get 6 rfl, HS.out.get 5 rfl, HS.out.get 4 rfl, HS.out.get 3 rfl, HS.out.get 1 rfl, HS.out.get 2 rfl, HS.out.get 0 rfl, HS.out.get 10 rfl, HS.out.get 9 rfl⟩ (fun hHeld => ?_)
                  clear hK K_
                  refine norm_ (a' := ?_) ?_ ?_
                  rotate_left
                  · show Act.put _ (some 139) _ = _
                    simp only [Act.put, List.setIfInBounds_toArray, List.set_cons_zero, List.set_cons_succ, i64_w, i32_w]
                    rfl
                  refine pq_ (i := 44) (N := some 140) (bz 60 70368744177663) ?_ (hy := by intro w'; go_simp; rw [HCI.out])
                  refine pq_ (i := 46) (N := some 142) (bz 60 140737488355327) ?_
                  refine pq_ (i := 47) (N := some 143) (bz 60 281474976710655) ?_
                  refine pq_ (i := 48) (N := some 144) (bz 60 562949953421311) ?_
                  refine tb_ (i := 49) (N := some 145) (bz 60 1125899906842623) hHeld (v := .agg #[.slice A0 l.length c0, .int .i64 a]) (fun w' hs => run_load_row_ rfl kl rfl 24 _ _ hs.2.2.2.2.2.2.2.2.1 Try.underlying24 rfl (by kernel_rfl)) ?_
                  refine tb_ (i := 51) (N := some 147) (bz 60 3377699720527871) hHeld (v := .agg #[.slice A1 lo.length c1, .int .i64 b]) (fun w' hs => run_load_row_ rfl ko rfl 24 _ _ hs.2.2.2.2.2.2.2.2.2 Try.underlying24 rfl (by kernel_rfl)) ?_
                  refine tb_ (i := 54) (N := some 150) (bz 60 21392098230009855) hHeld (v := .agg #[.slice A0 l.length c0, .int .i64 a]) (fun w' hs => run_load_row_ rfl kl rfl 24 _ _ hs.2.2.2.2.2.2.2.2.1 Try.underlying24 rfl (by kernel_rfl)) ?_
                  refine tb_ (i := 55) (N := some 151) (bz 60 57420895248973823) hHeld (v := .agg #[.slice A1 lo.length c1, .int .i64 b]) (fun w' hs => run_load_row_ rfl ko rfl 24 _ _ hs.2.2.2.2.2.2.2.2.2 Try.underlying24 rfl (by kernel_rfl)) ?_
                  as_aux_lemma =>
                    refine one_ (l := (bz 60 57420895248973823)) (i := 50) (N := some 146) (bz 60 58546795155816447) rfl rfl (by kernel_rfl) (by decide) (fun K_ hK => ?_)
                    refine goes_ Try.func11 (by kernel_rfl) rfl #[.agg #[.slice A0 l.length c0, .int .i64 a]] (by rfl) rfl rfl (by (try simp only [List.map_toArray, List.map_cons, List.map_nil]); first | done | rfl) ?_
                    refine Calls.mono (trefoillaw18_Own.calls K A0 c0 l a l a _ (Kd.C_below HR.out HS.out.B) Hc.out HO.out) ?_
                    rintro e_ wb ⟨v_, rfl, hv_, hb⟩
                    refine ⟨_, rfl, ?_⟩
                    obtain ⟨Ag, cg, rfl, hlo4, hs_⟩ := HS.out.val hb (own_val hv_)
                    have Ho4 := Lib.hid hlo4
                    have HN := Lib.hid hs_
                    clear HS hb hv_ hs_ hlo4
                    have HS := Lib.hid HN.out
                    clear HN
                    refine hK.out _ _ ⟨HS.out.get 7 rfl, HS.out.get 6 rfl, HS.out.get 5 rfl, HS.out.get 4 rfl, HS.out.get 3 rfl, HS.out.get 1 rfl, HS.out.get 2 rfl, HS.out.get 0 rfl, HS.out.get 10 rfl, HS.out.get 9 rfl⟩ (fun hHeld => ?_)
                    clear hK K_
                    refine norm_ (a' := ?_) ?_ ?_
                    rotate_left
                    · show Act.put _ (some 146) _ = _
                      simp only [Act.put, List.setIfInBounds_toArray, List.set_cons_zero, List.set_cons_succ, i64_w, i32_w]
                      rfl
                    refine one_ (l := (bz 60 58546795155816447)) (i := 52) (N := some 148) (bz 60 63050394783186943) rfl rfl (by kernel_rfl) (by decide) (fun K_ hK => ?_)
                    refine goes_ Try.func11 (by kernel_rfl) rfl #[.agg #[.slice A1 lo.length c1, .int .i64 b]] (by rfl) rfl rfl (by (try simp only [List.map_toArray, List.map_cons, List.map_nil]); first | done | rfl) ?_
                    refine Calls.mono (trefoillaw18_Own.calls K A1 c1 lo b lo b _ (Kd.C_below HR1.out HS.out.B) Hc1.out HO1.out) ?_
                    rintro e_ wb ⟨v_, rfl, hv_, hb⟩
                    refine ⟨_, rfl, ?_⟩
                    obtain ⟨Ah, ch, rfl, hlo5, hs_⟩ := HS.out.val hb (own_val hv_)
                    have Ho5 := Lib.hid hlo5
                    have HN := Lib.hid hs_
                    clear HS hb hv_ hs_ hlo5
                    have HS := Lib.hid HN.out
                    clear HN
                    refine hK.out _ _ ⟨HS.out.get 7 rfl, HS.out.get 6 rfl, HS.out.get 5 rfl, HS.out.get 4 rfl, HS.out.get 3 rfl, HS.out.get 1 rfl, HS.out.get 2 rfl, HS.out.get 0 rfl, HS.out.get 10 rfl, HS.out.get 9 rfl⟩ (fun hHeld => ?_)
                    clear hK K_
                    refine norm_ (a' := ?_) ?_ ?_
                    rotate_left
                    · show Act.put _ (some 148) _ = _
                      simp only [Act.put, List.setIfInBounds_toArray, List.set_cons_zero, List.set_cons_succ, i64_w, i32_w]
                      rfl
                    refine one_ (l := (bz 60 63050394783186943)) (i := 53) (N := some 149) (bz 60 72057594037927935) rfl rfl (by kernel_rfl) (by decide) (fun K_ hK => ?_)
                    refine goes_ Try.func22 (by kernel_rfl) rfl #[.agg #[.slice Ag l.length cg, .int .i64 a], .agg #[.slice Ah lo.length ch, .int .i64 b]] (by rfl) rfl rfl (by (try simp only [List.map_toArray, List.map_cons, List.map_nil]); first | done | rfl) ?_
                    refine Calls.mono (lane_Same.calls K Ag cg l a Ah ch lo b (sameL l a lo b) _ (HS.out.now 1 rfl) Ho4.out (HS.out.now 0 rfl) Ho5.out HSa.out) ?_
                    rintro e_ wb ⟨rfl, hb⟩
                    refine ⟨_, rfl, ?_⟩
                    have HN := Lib.hid (HS.out.below hb)
                    clear HS hb
                    have HS := Lib.hid HN.out
                    clear HN
                    refine hK.out _ _ ⟨HS.out.get 7 rfl, HS.out.get 6 rfl, HS.out.get 5 rfl, HS.out.get 4 rfl, HS.out.get 3 rfl, HS.out.get 1 rfl, HS.out.get 2 rfl, HS.out.get 0 rfl, HS.out.get 10 rfl, HS.out.get 9 rfl⟩ (fun hHeld => ?_)
                    clear hK K_
                    refine norm_ (a' := ?_) ?_ ?_
                    rotate_left
                    · show Act.put _ (some 149) _ = _
                      simp only [Act.put, List.setIfInBounds_toArray, List.set_cons_zero, List.set_cons_succ, i64_w, i32_w]
                      rfl
                    refine one_ (l := (bz 60 72057594037927935)) (i := 56) (N := some 152) (bz 60 144115188075855871) rfl rfl (by kernel_rfl) (by decide) (fun K_ hK => ?_)
                    refine goes_ Try.func19 (by kernel_rfl) rfl #[.agg #[.slice A0 l.length c0, .int .i64 a], .agg #[.slice A1 lo.length c1, .int .i64 b]] (by rfl) rfl rfl (by (try simp only [List.map_toArray, List.map_cons, List.map_nil]); first | done | rfl) ?_
                    refine Calls.mono (rsame_calls A0 c0 l a A1 c1 lo b _ (Kd.C_below HR.out HS.out.B) (Kd.C_below HR1.out HS.out.B) HL.out) ?_
                    rintro e_ wb ⟨rfl, hb⟩
                    refine ⟨_, rfl, ?_⟩
                    have HN := Lib.hid (HS.out.below hb)
                    clear HS hb
                    have HS := Lib.hid HN.out
                    clear HN
                    refine hK.out _ _ ⟨HS.out.get 7 rfl, HS.out.get 6 rfl, HS.out.get 5 rfl, HS.out.get 4 rfl, HS.out.get 3 rfl, HS.out.get 1 rfl, HS.out.get 2 rfl, HS.out.get 0 rfl, HS.out.get 10 rfl, HS.out.get 9 rfl⟩ (fun hHeld => ?_)
                    clear hK K_
                    refine norm_ (a' := ?_) ?_ ?_
                    rotate_left
                    · show Act.put _ (some 152) _ = _
                      simp only [Act.put, List.setIfInBounds_toArray, List.set_cons_zero, List.set_cons_succ, i64_w, i32_w]
                      rfl
                    refine pq_ (i := 57) (N := some 153) (bz 60 288230376151711743) ?_
                    refine pq_ (i := 58) (N := some 154) (bz 60 576460752303423487) ?_
                    refine pq_ (i := 59) (N := some 8) (bz 60 1152921504606846975) ?_
                    all_goals (refine done_ (by kernel_rfl) ?_)
                    try go_wp2
                    go_ret
                    exact ⟨rfl, HS.out.B⟩
end Go.Proofs.Yteodhffgnkdcfaa.Q
