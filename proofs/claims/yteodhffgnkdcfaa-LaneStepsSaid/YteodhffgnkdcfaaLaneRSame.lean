/- A walk: the document's Same. -/
import Derived.Test.YteodhffgnkdcfaaQx22
import Derived.Test.YteodhffgnkdcfaaLaneMore2
set_option linter.unusedVariables false
set_option linter.unusedSimpArgs false
namespace Go.Proofs.Yteodhffgnkdcfaa.Q
open Go.RowKit Go.Proofs.YteodhffgnkdcfaaW.PrintWords Go.Proofs.YteodhffgnkdcfaaW.PrintLast Go.Proofs.YteodhffgnkdcfaaW.PrintMore
attribute [local go_sem] max2_int min2_int max_two min_two max_three min_three max_four min_four
/-- Are two lanes the same? -/
noncomputable def sameL (l : List J3) (a : Int) (m : List J3) (b : Int) : Bool := @decide (l = m ∧ a = b) (Classical.propDecidable _)
theorem sameL_yes {l m : List J3} {a b : Int} (h : l = m) (h2 : a = b) : sameL l a m b = true := by unfold sameL; simp [h, h2]
theorem sameL_no {l m : List J3} {a b : Int} (h : ¬ (l = m ∧ a = b)) : sameL l a m b = false := by unfold sameL; simpa using h
theorem rints_loop (l m : List Int) (h : l.length = m.length) (hl : l.length ≤ 1000000) : ∀ (d k i : Nat), i + d = l.length → d < k → ((∀ q, i ≤ q → q < l.length → l.getD q 0 = m.getD q 0) → trefoilref02_Ints.l0 k l m (i : Int) = some true) ∧ (¬ (∀ q, i ≤ q → q < l.length → l.getD q 0 = m.getD q 0) → trefoilref02_Ints.l0 k l m (i : Int) = some false)
  | 0, k + 1, i, hi, _ => by
    unfold trefoilref02_Ints.l0
    rw [if_neg (by omega)]
    exact ⟨fun _ => rfl, fun h => absurd (fun q h1 h2 => by omega) h⟩
  | d + 1, k + 1, i, hi, hk => by
    have hw : wrap64 ((i : Int) + 1) = ((i + 1 : Nat) : Int) := by rw [lw64 (by omega) (by omega)]; omega
    have r1 : ∀ x : List Int, rd x (i : Int) = x.getD i 0 := fun x => by unfold rd; rw [Int.toNat_natCast]
    unfold trefoilref02_Ints.l0
    rw [if_pos (by omega), if_pos (by omega), if_pos (by omega), r1, r1, hw]
    obtain ⟨ih1, ih2⟩ := rints_loop l m h hl d k (i + 1) (by omega) (by omega)
    by_cases c : l.getD i 0 = m.getD i 0
    · rw [if_pos c]
      refine ⟨fun h2 => ih1 (fun q h3 h4 => h2 q (by omega) h4), fun h2 => ih2 (fun h5 => h2 (fun q h3 h4 => ?_))⟩
      rcases Nat.lt_or_ge i q with h6 | h6
      · exact h5 q (by omega) h4
      · obtain rfl : q = i := by omega
        exact c
    · rw [if_neg c]
      exact ⟨fun h2 => absurd (h2 i (Nat.le_refl _) (by omega)) c, fun _ => rfl⟩
theorem rints_same {l m : List Int} {k : Nat} (hl : l.length ≤ 1000) (hk : 1000 < k) : trefoilref02_Ints.f k l m = some (decide (l = m)) := by
  unfold trefoilref02_Ints.f
  by_cases c : l.length = m.length
  · rw [if_pos (by omega)]
    obtain ⟨h1, h2⟩ := rints_loop l m c (by omega) l.length k 0 (by omega) (by omega)
    by_cases e : l = m
    · rw [decide_eq_true e]
      exact h1 (fun q _ _ => by rw [e])
    · rw [decide_eq_false e]
      refine h2 (fun h3 => e (List.ext_getElem c (fun q hq1 hq2 => ?_)))
      have := h3 q (Nat.zero_le _) hq1
      rwa [List.getD_eq_getElem?_getD, List.getD_eq_getElem?_getD, List.getElem?_eq_getElem hq1, List.getElem?_eq_getElem hq2] at this
  · rw [if_neg (by omega), decide_eq_false (fun e => c (by rw [e]))]
set_option maxHeartbeats 8000000 in
set_option maxRecDepth 100000 in
theorem rsame_calls (A0 : Option Addr) (c0 : Nat) (l : List J3) (a : Int) (A1 : Option Addr) (c1 : Nat) (m : List J3) (b : Int) (w : World) (hr0 : Kd.C k27 w A0 l.length l) (hr1 : Kd.C k27 w A1 m.length m) (hl : ∀ x ∈ l, x.f2.length ≤ 1000) :
    Calls Try.prog 19 #[.agg #[.slice A0 l.length c0, .int .i64 a], .agg #[.slice A1 m.length c1, .int .i64 b]] w fun e w' => e = .returned (.bool (sameL l a m b)) ∧ Below w.heap.size w w' := by
  obtain ⟨K, hK⟩ : ∃ K : Nat, 3000 < K := ⟨3001, by omega⟩
  have h0 := kd_len hr0
  have h1 := kd_len hr1
  have HR0 := Lib.hid hr0
  have HR1 := Lib.hid hr1
  have HL := Lib.hid hl
  have HS := Lib.hid (Sx.start w)
  clear hr0 hr1 hl
  by_cases ca : a = b
  case neg =>
    have hab : (a != b) = true := by simp [ca]
    have E := Lib.hid (sameL_no (l := l) (m := m) (fun h => ca h.2))
    clear ca
    go_enter Try.func19, Try.ntmps19
    go_wp2_with (first | ((with_reducible refine gate_dst (N := 2) rfl ?_); refine box_event ?hg (N := 2) ?hd (cs := #[.slice A0 l.length c0, .int .i64 a]) (t := 24) ?hr ?_; (case hd => rfl); (case hg => rfl); (case hr => first | (go_simp; done) | (go_simp; rfl)); intro ka hE_ w1 hbox hb; have HN := Lib.hid (show Sx w [(ka, #[.slice A0 l.length c0, .int .i64 a], 24)] [] w1 from HS.out.box hE_ hbox hb); clear HS hE_ hbox hb; have HS := Lib.hid HN.out; clear HN) | ((with_reducible refine gate_dst (N := 3) rfl ?_); refine box_event ?hg (N := 3) ?hd (cs := #[.slice A1 m.length c1, .int .i64 b]) (t := 24) ?hr ?_; (case hd => rfl); (case hg => rfl); (case hr => first | (go_simp; done) | (go_simp; rfl)); intro kb hE_ w2 hbox hb; have HN := Lib.hid (show Sx w [(kb, #[.slice A1 m.length c1, .int .i64 b], 24), (ka, #[.slice A0 l.length c0, .int .i64 a], 24)] [] w2 from HS.out.box hE_ hbox hb); clear HS hE_ hbox hb; have HS := Lib.hid HN.out; clear HN; have a0 : w2.cell? ⟨ka, 0, none⟩ = some (.slice A0 l.length c0) := (blk_cell (HS.out.get 1 rfl) 0).trans rfl; have a1 : w2.cell? ⟨ka, 1, none⟩ = some (.int .i64 a) := (blk_cell (HS.out.get 1 rfl) 1).trans rfl; have b0 : w2.cell? ⟨kb, 0, none⟩ = some (.slice A1 m.length c1) := (blk_cell (HS.out.get 0 rfl) 0).trans rfl; have b1 : w2.cell? ⟨kb, 1, none⟩ = some (.int .i64 b) := (blk_cell (HS.out.get 0 rfl) 1).trans rfl))
    go_ret
    rw [E.out]
    exact ⟨rfl, HS.out.B⟩
  case pos =>
    have hab : (a != b) = false := by simp [ca]
    have Hab := Lib.hid ca
    clear ca
    by_cases cl : l.length = m.length
    case neg =>
      have hlb : ((l.length : Int) != (m.length : Int)) = true := by simp; omega
      have E := Lib.hid (sameL_no (a := a) (b := b) (fun (h : l = m ∧ a = b) => cl (by rw [h.1])))
      clear cl
      go_enter Try.func19, Try.ntmps19
      go_wp2_with (first | ((with_reducible refine gate_dst (N := 2) rfl ?_); refine box_event ?hg (N := 2) ?hd (cs := #[.slice A0 l.length c0, .int .i64 a]) (t := 24) ?hr ?_; (case hd => rfl); (case hg => rfl); (case hr => first | (go_simp; done) | (go_simp; rfl)); intro ka hE_ w1 hbox hb; have HN := Lib.hid (show Sx w [(ka, #[.slice A0 l.length c0, .int .i64 a], 24)] [] w1 from HS.out.box hE_ hbox hb); clear HS hE_ hbox hb; have HS := Lib.hid HN.out; clear HN) | ((with_reducible refine gate_dst (N := 3) rfl ?_); refine box_event ?hg (N := 3) ?hd (cs := #[.slice A1 m.length c1, .int .i64 b]) (t := 24) ?hr ?_; (case hd => rfl); (case hg => rfl); (case hr => first | (go_simp; done) | (go_simp; rfl)); intro kb hE_ w2 hbox hb; have HN := Lib.hid (show Sx w [(kb, #[.slice A1 m.length c1, .int .i64 b], 24), (ka, #[.slice A0 l.length c0, .int .i64 a], 24)] [] w2 from HS.out.box hE_ hbox hb); clear HS hE_ hbox hb; have HS := Lib.hid HN.out; clear HN; have a0 : w2.cell? ⟨ka, 0, none⟩ = some (.slice A0 l.length c0) := (blk_cell (HS.out.get 1 rfl) 0).trans rfl; have a1 : w2.cell? ⟨ka, 1, none⟩ = some (.int .i64 a) := (blk_cell (HS.out.get 1 rfl) 1).trans rfl; have b0 : w2.cell? ⟨kb, 0, none⟩ = some (.slice A1 m.length c1) := (blk_cell (HS.out.get 0 rfl) 0).trans rfl; have b1 : w2.cell? ⟨kb, 1, none⟩ = some (.int .i64 b) := (blk_cell (HS.out.get 0 rfl) 1).trans rfl))
      go_ret
      rw [E.out]
      exact ⟨rfl, HS.out.B⟩
    case pos =>
      have hlb : ((l.length : Int) != (m.length : Int)) = false := by simp; omega
      have Hcl := Lib.hid cl
      clear cl
      go_enter Try.func19, Try.ntmps19
      go_wp2_with (first | ((with_reducible refine gate_dst (N := 2) rfl ?_); refine box_event ?hg (N := 2) ?hd (cs := #[.slice A0 l.length c0, .int .i64 a]) (t := 24) ?hr ?_; (case hd => rfl); (case hg => rfl); (case hr => first | (go_simp; done) | (go_simp; rfl)); intro ka hE_ w1 hbox hb; have HN := Lib.hid (show Sx w [(ka, #[.slice A0 l.length c0, .int .i64 a], 24)] [] w1 from HS.out.box hE_ hbox hb); clear HS hE_ hbox hb; have HS := Lib.hid HN.out; clear HN) | ((with_reducible refine gate_dst (N := 3) rfl ?_); refine box_event ?hg (N := 3) ?hd (cs := #[.slice A1 m.length c1, .int .i64 b]) (t := 24) ?hr ?_; (case hd => rfl); (case hg => rfl); (case hr => first | (go_simp; done) | (go_simp; rfl)); intro kb hE_ w2 hbox hb; have HN := Lib.hid (show Sx w [(kb, #[.slice A1 m.length c1, .int .i64 b], 24), (ka, #[.slice A0 l.length c0, .int .i64 a], 24)] [] w2 from HS.out.box hE_ hbox hb); clear HS hE_ hbox hb; have HS := Lib.hid HN.out; clear HN; have a0 : w2.cell? ⟨ka, 0, none⟩ = some (.slice A0 l.length c0) := (blk_cell (HS.out.get 1 rfl) 0).trans rfl; have a1 : w2.cell? ⟨ka, 1, none⟩ = some (.int .i64 a) := (blk_cell (HS.out.get 1 rfl) 1).trans rfl; have b0 : w2.cell? ⟨kb, 0, none⟩ = some (.slice A1 m.length c1) := (blk_cell (HS.out.get 0 rfl) 0).trans rfl; have b1 : w2.cell? ⟨kb, 1, none⟩ = some (.int .i64 b) := (blk_cell (HS.out.get 0 rfl) 1).trans rfl))
      clear a0 a1 b0 b1
      go_loopw [5] (fun v5 w' => ∃ i_ : Nat, i_ ≤ l.length ∧ v5 = .int .i64 i_ ∧ Aside0 (∀ q, q < i_ → l.getD q z27 = m.getD q z27) ∧ Aside0 (Sx w [(kb, #[.slice A1 m.length c1, .int .i64 b], 24), (ka, #[.slice A0 l.length c0, .int .i64 a], 24)] [] w')) (fun v5 _ => l.length - (intOf v5).toNat)
      case atStart => exact ⟨0, Nat.zero_le _, rfl, ⟨fun q hq => by omega⟩, ⟨HS.out⟩⟩
      case round =>
        clear HS
        obtain ⟨i_, hi, rfl, HQ0, HS0⟩ := hrel
        have HQ := Lib.hid HQ0.out
        have HS := Lib.hid HS0.out
        clear HQ0 HS0
        have mixed : Try.prog.follows .mixedOrders = true := by kernel_rfl
        by_cases ci : i_ < l.length
        case neg =>
          have cib : decide ((i_ : Int) < (l.length : Int)) = false := decide_eq_false (by omega)
          have cib2 : decide (i_ < l.length) = false := decide_eq_false ci
          have E := Lib.hid (sameL_yes (a := a) (b := b) (show l = m from List.ext_getElem Hcl.out (fun q h1 h2 => by have := HQ.out q (by omega); rwa [getD_lt h1, getD_lt h2] at this)) Hab.out)
          have a0 : wr.cell? ⟨ka, 0, none⟩ = some (.slice A0 l.length c0) := (blk_cell (HS.out.get 1 rfl) 0).trans rfl
          have b0 : wr.cell? ⟨kb, 0, none⟩ = some (.slice A1 m.length c1) := (blk_cell (HS.out.get 0 rfl) 0).trans rfl
          clear ci
          go_wp2
          go_ret
          rw [E.out]
          exact ⟨rfl, HS.out.B⟩
        case pos =>
          have cib : decide ((i_ : Int) < (l.length : Int)) = true := decide_eq_true (by omega)
          have cib2 : decide (i_ < l.length) = true := decide_eq_true ci
          have cm : i_ < m.length := by have := Hcl.out; omega
          have cmb : decide ((i_ : Int) < (m.length : Int)) = true := decide_eq_true (by omega)
          have cmb2 : decide (i_ < m.length) = true := decide_eq_true cm
          obtain ⟨ad, A2, c2, hA, x0, x1, x2, hx1, hx2⟩ := at_job HR0.out ci
          obtain ⟨ad', A3, c3, hA', y0, y1, y2, hy1, hy2⟩ := at_job HR1.out cm
          subst hA hA'
          have Hml := Lib.hid (HL.out _ (mem_getD (z := z27) ci))
          obtain ⟨x, hx⟩ : ∃ x, l.getD i_ z27 = x := ⟨_, rfl⟩
          obtain ⟨y, hy⟩ : ∃ y, m.getD i_ z27 = y := ⟨_, rfl⟩
          have HXY := Lib.hid (And.intro hx hy)
          rw [hx] at x0 x1 x2 hx1 hx2 Hml
          rw [hy] at y0 y1 y2 hy1 hy2
          have HX1 := Lib.hid hx1
          have HX2 := Lib.hid hx2
          have HY1 := Lib.hid hy1
          have HY2 := Lib.hid hy2
          have X0 := Lib.hid x0
          have X1 := Lib.hid x1
          have X2 := Lib.hid x2
          have Y0 := Lib.hid y0
          have Y1 := Lib.hid y1
          have Y2 := Lib.hid y2
          clear hx hy hx1 hx2 hy1 hy2 x0 x1 x2 y0 y1 y2
          have E := Lib.hid (show x ≠ y → sameL l a m b = false from fun h => sameL_no (fun h2 => h (by rw [← HXY.out.1, ← HXY.out.2, h2.1])))
          have a0 : wr.cell? ⟨ka, 0, none⟩ = some (.slice (some ad) l.length c0) := (blk_cell (HS.out.get 1 rfl) 0).trans rfl
          have b0 : wr.cell? ⟨kb, 0, none⟩ = some (.slice (some ad') m.length c1) := (blk_cell (HS.out.get 0 rfl) 0).trans rfl
          go_wp2
          clear a0 b0
          by_cases d1 : x.f0 = y.f0
          case neg =>
            have e1 : (x.f0 != y.f0) = true := by simp [d1]
            have E1 := Lib.hid (E.out (fun h => d1 (by rw [h])))
            clear d1
            have HN := Lib.hid (HS.out.below (below_drew1 (Below.refl _ _)))
            clear HS
            have HS := Lib.hid HN.out
            clear HN
            refine start_ (n := 44) (S := fun W_ => W_.cell? ⟨ka, 0, none⟩ = some (.slice (some ad) l.length c0) ∧ W_.cell? ⟨kb, 0, none⟩ = some (.slice (some ad') m.length c1) ∧ W_.cell? (ad.add (i_ * 3)) = some (.int .i64 x.f0) ∧ W_.cell? ⟨(ad.add (i_ * 3)).block, (ad.add (i_ * 3)).off + 1, none⟩ = some (.int .i64 x.f1) ∧ W_.cell? ⟨(ad.add (i_ * 3)).block, (ad.add (i_ * 3)).off + 2, none⟩ = some (.slice A2 x.f2.length c2) ∧ W_.cell? (ad'.add (i_ * 3)) = some (.int .i64 y.f0) ∧ W_.cell? ⟨(ad'.add (i_ * 3)).block, (ad'.add (i_ * 3)).off + 1, none⟩ = some (.int .i64 y.f1) ∧ W_.cell? ⟨(ad'.add (i_ * 3)).block, (ad'.add (i_ * 3)).off + 2, none⟩ = some (.slice A3 y.f2.length c3)) (ds := []) (bz 44 0) (by kernel_rfl) rfl (by kernel_rfl) ⟨bc_ (HS.out.get 1 rfl) 0, bc_ (HS.out.get 0 rfl) 0, pw_cell_below HS.out.B X0.out, pw_cell_below HS.out.B X1.out, pw_cell_below HS.out.B X2.out, pw_cell_below HS.out.B Y0.out, pw_cell_below HS.out.B Y1.out, pw_cell_below HS.out.B Y2.out⟩ (fun hHeld => ?_)
            refine pq_ (i := 0) (N := some 27) (bz 44 1) ?_
            refine tq_ (i := 1) (N := some 28) (bz 44 3) hHeld ?_
            refine pq_ (i := 2) (N := some 29) (bz 44 7) ?_
            refine pq_ (i := 3) (N := some 30) (bz 44 15) ?_
            refine pq_ (i := 4) (N := some 31) (bz 44 31) ?_
            refine tq_ (i := 5) (N := some 32) (bz 44 63) hHeld ?_
            refine pq_ (i := 6) (N := some 33) (bz 44 127) ?_
            refine tq_ (i := 7) (N := some 34) (bz 44 255) hHeld ?_
            refine pq_ (i := 8) (N := some 35) (bz 44 511) ?_
            refine pq_ (i := 9) (N := some 36) (bz 44 1023) ?_
            refine pq_ (i := 10) (N := some 37) (bz 44 2047) ?_
            refine tq_ (i := 11) (N := some 38) (bz 44 4095) hHeld ?_
            refine pq_ (i := 12) (N := some 39) (bz 44 8191) ?_
            refine pq_ (i := 13) (N := some 40) (bz 44 16383) ?_
            refine sq_ (i := 14) (N := some 41) (bz 44 32767) ?_
            refine sq_ (i := 15) (N := some 42) (bz 44 65535) ?_
            refine sq_ (i := 16) (N := some 43) (bz 44 131071) ?_
            refine sq_ (i := 17) (N := some 44) (bz 44 262143) ?_
            refine sq_ (i := 18) (N := some 45) (bz 44 524287) ?_
            refine sq_ (i := 19) (N := some 46) (bz 44 1048575) ?_
            refine sq_ (i := 20) (N := some 47) (bz 44 2097151) ?_
            refine sq_ (i := 21) (N := some 48) (bz 44 4194303) ?_
            refine sq_ (i := 22) (N := some 49) (bz 44 8388607) ?_
            refine sq_ (i := 23) (N := some 50) (bz 44 16777215) ?_
            refine sq_ (i := 24) (N := some 51) (bz 44 33554431) ?_
            refine sq_ (i := 25) (N := some 52) (bz 44 67108863) ?_
            refine sq_ (i := 26) (N := some 53) (bz 44 134217727) ?_
            refine pq_ (i := 27) (N := some 54) (bz 44 268435455) ?_
            refine pq_ (i := 28) (N := some 55) (bz 44 536870911) ?_
            refine sq_ (i := 29) (N := some 56) (bz 44 1073741823) ?_
            refine sq_ (i := 30) (N := some 57) (bz 44 2147483647) ?_
            refine sq_ (i := 31) (N := some 58) (bz 44 4294967295) ?_
            refine sq_ (i := 32) (N := some 59) (bz 44 8589934591) ?_
            refine sq_ (i := 33) (N := some 60) (bz 44 17179869183) ?_
            refine sq_ (i := 34) (N := some 61) (bz 44 34359738367) ?_
            refine sq_ (i := 35) (N := some 62) (bz 44 68719476735) ?_
            refine sq_ (i := 36) (N := some 63) (bz 44 137438953471) ?_
            refine sq_ (i := 37) (N := some 64) (bz 44 274877906943) ?_
            refine sq_ (i := 38) (N := some 65) (bz 44 549755813887) ?_
            refine sq_ (i := 39) (N := some 66) (bz 44 1099511627775) ?_
            refine sq_ (i := 40) (N := some 67) (bz 44 2199023255551) ?_
            refine sq_ (i := 41) (N := some 68) (bz 44 4398046511103) ?_
            refine sq_ (i := 42) (N := some 69) (bz 44 8796093022207) ?_
            refine pq_ (i := 43) (N := some 70) (bz 44 17592186044415) ?_
            all_goals (refine done_ (by kernel_rfl) ?_)
            go_wp2
            go_ret
            rw [E1.out]
            exact ⟨rfl, HS.out.B⟩
          case pos =>
            have e1 : (x.f0 != y.f0) = false := by simp [d1]
            have D1 := Lib.hid d1
            clear d1
            by_cases d2 : x.f1 = y.f1
            case neg =>
              have e2 : (x.f1 != y.f1) = true := by simp [d2]
              have E1 := Lib.hid (E.out (fun h => d2 (by rw [h])))
              clear d2
              have HN := Lib.hid (HS.out.below (below_drew1 (Below.refl _ _)))
              clear HS
              have HS := Lib.hid HN.out
              clear HN
              refine start_ (n := 44) (S := fun W_ => W_.cell? ⟨ka, 0, none⟩ = some (.slice (some ad) l.length c0) ∧ W_.cell? ⟨kb, 0, none⟩ = some (.slice (some ad') m.length c1) ∧ W_.cell? (ad.add (i_ * 3)) = some (.int .i64 x.f0) ∧ W_.cell? ⟨(ad.add (i_ * 3)).block, (ad.add (i_ * 3)).off + 1, none⟩ = some (.int .i64 x.f1) ∧ W_.cell? ⟨(ad.add (i_ * 3)).block, (ad.add (i_ * 3)).off + 2, none⟩ = some (.slice A2 x.f2.length c2) ∧ W_.cell? (ad'.add (i_ * 3)) = some (.int .i64 y.f0) ∧ W_.cell? ⟨(ad'.add (i_ * 3)).block, (ad'.add (i_ * 3)).off + 1, none⟩ = some (.int .i64 y.f1) ∧ W_.cell? ⟨(ad'.add (i_ * 3)).block, (ad'.add (i_ * 3)).off + 2, none⟩ = some (.slice A3 y.f2.length c3)) (ds := []) (bz 44 0) (by kernel_rfl) rfl (by kernel_rfl) ⟨bc_ (HS.out.get 1 rfl) 0, bc_ (HS.out.get 0 rfl) 0, pw_cell_below HS.out.B X0.out, pw_cell_below HS.out.B X1.out, pw_cell_below HS.out.B X2.out, pw_cell_below HS.out.B Y0.out, pw_cell_below HS.out.B Y1.out, pw_cell_below HS.out.B Y2.out⟩ (fun hHeld => ?_)
              refine pq_ (i := 0) (N := some 27) (bz 44 1) ?_
              refine tq_ (i := 1) (N := some 28) (bz 44 3) hHeld ?_
              refine pq_ (i := 2) (N := some 29) (bz 44 7) ?_
              refine pq_ (i := 3) (N := some 30) (bz 44 15) ?_
              refine pq_ (i := 4) (N := some 31) (bz 44 31) ?_
              refine tq_ (i := 5) (N := some 32) (bz 44 63) hHeld ?_
              refine pq_ (i := 6) (N := some 33) (bz 44 127) ?_
              refine tq_ (i := 7) (N := some 34) (bz 44 255) hHeld ?_
              refine pq_ (i := 8) (N := some 35) (bz 44 511) ?_
              refine pq_ (i := 9) (N := some 36) (bz 44 1023) ?_
              refine pq_ (i := 10) (N := some 37) (bz 44 2047) ?_
              refine tq_ (i := 11) (N := some 38) (bz 44 4095) hHeld ?_
              refine pq_ (i := 12) (N := some 39) (bz 44 8191) ?_
              refine pq_ (i := 13) (N := some 40) (bz 44 16383) ?_
              refine pq_ (i := 14) (N := some 41) (bz 44 32767) ?_
              refine tq_ (i := 15) (N := some 42) (bz 44 65535) hHeld ?_
              refine pq_ (i := 16) (N := some 43) (bz 44 131071) ?_
              refine pq_ (i := 17) (N := some 44) (bz 44 262143) ?_
              refine pq_ (i := 18) (N := some 45) (bz 44 524287) ?_
              refine tq_ (i := 19) (N := some 46) (bz 44 1048575) hHeld ?_
              refine pq_ (i := 20) (N := some 47) (bz 44 2097151) ?_
              refine tq_ (i := 21) (N := some 48) (bz 44 4194303) hHeld ?_
              refine pq_ (i := 22) (N := some 49) (bz 44 8388607) ?_
              refine pq_ (i := 23) (N := some 50) (bz 44 16777215) ?_
              refine pq_ (i := 24) (N := some 51) (bz 44 33554431) ?_
              refine tq_ (i := 25) (N := some 52) (bz 44 67108863) hHeld ?_
              refine pq_ (i := 26) (N := some 53) (bz 44 134217727) ?_
              refine pq_ (i := 27) (N := some 54) (bz 44 268435455) ?_
              refine pq_ (i := 28) (N := some 55) (bz 44 536870911) ?_
              refine sq_ (i := 29) (N := some 56) (bz 44 1073741823) ?_
              refine sq_ (i := 30) (N := some 57) (bz 44 2147483647) ?_
              refine sq_ (i := 31) (N := some 58) (bz 44 4294967295) ?_
              refine sq_ (i := 32) (N := some 59) (bz 44 8589934591) ?_
              refine sq_ (i := 33) (N := some 60) (bz 44 17179869183) ?_
              refine sq_ (i := 34) (N := some 61) (bz 44 34359738367) ?_
              refine sq_ (i := 35) (N := some 62) (bz 44 68719476735) ?_
              refine sq_ (i := 36) (N := some 63) (bz 44 137438953471) ?_
              refine sq_ (i := 37) (N := some 64) (bz 44 274877906943) ?_
              refine sq_ (i := 38) (N := some 65) (bz 44 549755813887) ?_
              refine sq_ (i := 39) (N := some 66) (bz 44 1099511627775) ?_
              refine sq_ (i := 40) (N := some 67) (bz 44 2199023255551) ?_
              refine sq_ (i := 41) (N := some 68) (bz 44 4398046511103) ?_
              refine sq_ (i := 42) (N := some 69) (bz 44 8796093022207) ?_
              refine pq_ (i := 43) (N := some 70) (bz 44 17592186044415) ?_
              all_goals (refine done_ (by kernel_rfl) ?_)
              go_wp2
              go_ret
              rw [E1.out]
              exact ⟨rfl, HS.out.B⟩
            case pos =>
              have e2 : (x.f1 != y.f1) = false := by simp [d2]
              have D2 := Lib.hid d2
              clear d2
              obtain ⟨v, hv⟩ : ∃ v, decide (x.f2 = y.f2) = v := ⟨_, rfl⟩
              have HV := Lib.hid (show trefoilref02_Ints.f K x.f2 y.f2 = some v from by rw [rints_same Hml.out (by omega), hv])
              cases v with
              | false =>
                have D3 := of_decide_eq_false hv
                have E1 := Lib.hid (E.out (fun h => D3 (by rw [h])))
                clear hv D3
                have HN := Lib.hid (HS.out.below (below_drew1 (Below.refl _ _)))
                clear HS
                have HS := Lib.hid HN.out
                clear HN
                refine start_ (n := 44) (S := fun W_ => W_.cell? ⟨ka, 0, none⟩ = some (.slice (some ad) l.length c0) ∧ W_.cell? ⟨kb, 0, none⟩ = some (.slice (some ad') m.length c1) ∧ W_.cell? (ad.add (i_ * 3)) = some (.int .i64 x.f0) ∧ W_.cell? ⟨(ad.add (i_ * 3)).block, (ad.add (i_ * 3)).off + 1, none⟩ = some (.int .i64 x.f1) ∧ W_.cell? ⟨(ad.add (i_ * 3)).block, (ad.add (i_ * 3)).off + 2, none⟩ = some (.slice A2 x.f2.length c2) ∧ W_.cell? (ad'.add (i_ * 3)) = some (.int .i64 y.f0) ∧ W_.cell? ⟨(ad'.add (i_ * 3)).block, (ad'.add (i_ * 3)).off + 1, none⟩ = some (.int .i64 y.f1) ∧ W_.cell? ⟨(ad'.add (i_ * 3)).block, (ad'.add (i_ * 3)).off + 2, none⟩ = some (.slice A3 y.f2.length c3)) (ds := []) (bz 44 0) (by kernel_rfl) rfl (by kernel_rfl) ⟨bc_ (HS.out.get 1 rfl) 0, bc_ (HS.out.get 0 rfl) 0, pw_cell_below HS.out.B X0.out, pw_cell_below HS.out.B X1.out, pw_cell_below HS.out.B X2.out, pw_cell_below HS.out.B Y0.out, pw_cell_below HS.out.B Y1.out, pw_cell_below HS.out.B Y2.out⟩ (fun hHeld => ?_)
                refine pq_ (i := 0) (N := some 27) (bz 44 1) ?_
                refine tq_ (i := 1) (N := some 28) (bz 44 3) hHeld ?_
                refine pq_ (i := 2) (N := some 29) (bz 44 7) ?_
                refine pq_ (i := 3) (N := some 30) (bz 44 15) ?_
                refine pq_ (i := 4) (N := some 31) (bz 44 31) ?_
                refine tq_ (i := 5) (N := some 32) (bz 44 63) hHeld ?_
                refine pq_ (i := 6) (N := some 33) (bz 44 127) ?_
                refine tq_ (i := 7) (N := some 34) (bz 44 255) hHeld ?_
                refine pq_ (i := 8) (N := some 35) (bz 44 511) ?_
                refine pq_ (i := 9) (N := some 36) (bz 44 1023) ?_
                refine pq_ (i := 10) (N := some 37) (bz 44 2047) ?_
                refine tq_ (i := 11) (N := some 38) (bz 44 4095) hHeld ?_
                refine pq_ (i := 12) (N := some 39) (bz 44 8191) ?_
                refine pq_ (i := 13) (N := some 40) (bz 44 16383) ?_
                refine pq_ (i := 14) (N := some 41) (bz 44 32767) ?_
                refine tq_ (i := 15) (N := some 42) (bz 44 65535) hHeld ?_
                refine pq_ (i := 16) (N := some 43) (bz 44 131071) ?_
                refine pq_ (i := 17) (N := some 44) (bz 44 262143) ?_
                refine pq_ (i := 18) (N := some 45) (bz 44 524287) ?_
                refine tq_ (i := 19) (N := some 46) (bz 44 1048575) hHeld ?_
                refine pq_ (i := 20) (N := some 47) (bz 44 2097151) ?_
                refine tq_ (i := 21) (N := some 48) (bz 44 4194303) hHeld ?_
                refine pq_ (i := 22) (N := some 49) (bz 44 8388607) ?_
                refine pq_ (i := 23) (N := some 50) (bz 44 16777215) ?_
                refine pq_ (i := 24) (N := some 51) (bz 44 33554431) ?_
                refine tq_ (i := 25) (N := some 52) (bz 44 67108863) hHeld ?_
                refine pq_ (i := 26) (N := some 53) (bz 44 134217727) ?_
                refine pq_ (i := 27) (N := some 54) (bz 44 268435455) ?_
                refine pq_ (i := 28) (N := some 55) (bz 44 536870911) ?_
                refine pq_ (i := 29) (N := some 56) (bz 44 1073741823) ?_
                refine tq_ (i := 30) (N := some 57) (bz 44 2147483647) hHeld ?_
                refine pq_ (i := 31) (N := some 58) (bz 44 4294967295) ?_
                refine pq_ (i := 32) (N := some 59) (bz 44 8589934591) ?_
                refine pq_ (i := 33) (N := some 60) (bz 44 17179869183) ?_
                refine tq_ (i := 34) (N := some 61) (bz 44 34359738367) hHeld ?_
                refine pq_ (i := 35) (N := some 62) (bz 44 68719476735) ?_
                refine tq_ (i := 36) (N := some 63) (bz 44 137438953471) hHeld ?_
                refine pq_ (i := 37) (N := some 64) (bz 44 274877906943) ?_
                refine pq_ (i := 38) (N := some 65) (bz 44 549755813887) ?_
                refine pq_ (i := 39) (N := some 66) (bz 44 1099511627775) ?_
                refine tq_ (i := 40) (N := some 67) (bz 44 2199023255551) hHeld ?_
                refine one_ (l := (bz 44 2199023255551)) (i := 41) (N := some 68) (bz 44 4398046511103) rfl rfl (by kernel_rfl) (by decide) (fun K_ hK => ?_)
                refine goes_ Try.func34 (by kernel_rfl) rfl #[.slice A2 x.f2.length c2, .slice A3 y.f2.length c3] (by rfl) rfl rfl (by (try simp only [List.map_toArray, List.map_cons, List.map_nil]); first | done | rfl) ?_
                refine Calls.mono (trefoilref02_Ints.calls K A2 c2 x.f2 A3 c3 y.f2 false _ (Kd.C_below HX2.out HS.out.B) HX1.out (Kd.C_below HY2.out HS.out.B) HY1.out HV.out) ?_
                rintro e_ wb ⟨rfl, hb⟩
                refine ⟨_, rfl, ?_⟩
                have HN := Lib.hid (HS.out.below (Drawn0.below hb))
                clear HS hb
                have HS := Lib.hid HN.out
                clear HN
                refine hK.out _ _ ⟨bc_ (HS.out.get 1 rfl) 0, bc_ (HS.out.get 0 rfl) 0, pw_cell_below HS.out.B X0.out, pw_cell_below HS.out.B X1.out, pw_cell_below HS.out.B X2.out, pw_cell_below HS.out.B Y0.out, pw_cell_below HS.out.B Y1.out, pw_cell_below HS.out.B Y2.out⟩ (fun hHeld => ?_)
                clear hK K_
                refine norm_ (a' := ?_) ?_ ?_
                rotate_left
                · show Act.put _ (some 68) _ = _
                  simp only [Act.put, List.setIfInBounds_toArray, List.set_cons_zero, List.set_cons_succ, i64_w, i32_w]
                  rfl
                refine pq_ (i := 42) (N := some 69) (bz 44 8796093022207) ?_
                refine pq_ (i := 43) (N := some 70) (bz 44 17592186044415) ?_
                all_goals (refine done_ (by kernel_rfl) ?_)
                go_wp2
                go_ret
                rw [E1.out]
                exact ⟨rfl, HS.out.B⟩
              | true =>
                have D3 := Lib.hid (of_decide_eq_true hv)
                clear hv
                have HN := Lib.hid (HS.out.below (below_drew1 (Below.refl _ _)))
                clear HS
                have HS := Lib.hid HN.out
                clear HN
                refine start_ (n := 44) (S := fun W_ => W_.cell? ⟨ka, 0, none⟩ = some (.slice (some ad) l.length c0) ∧ W_.cell? ⟨kb, 0, none⟩ = some (.slice (some ad') m.length c1) ∧ W_.cell? (ad.add (i_ * 3)) = some (.int .i64 x.f0) ∧ W_.cell? ⟨(ad.add (i_ * 3)).block, (ad.add (i_ * 3)).off + 1, none⟩ = some (.int .i64 x.f1) ∧ W_.cell? ⟨(ad.add (i_ * 3)).block, (ad.add (i_ * 3)).off + 2, none⟩ = some (.slice A2 x.f2.length c2) ∧ W_.cell? (ad'.add (i_ * 3)) = some (.int .i64 y.f0) ∧ W_.cell? ⟨(ad'.add (i_ * 3)).block, (ad'.add (i_ * 3)).off + 1, none⟩ = some (.int .i64 y.f1) ∧ W_.cell? ⟨(ad'.add (i_ * 3)).block, (ad'.add (i_ * 3)).off + 2, none⟩ = some (.slice A3 y.f2.length c3)) (ds := []) (bz 44 0) (by kernel_rfl) rfl (by kernel_rfl) ⟨bc_ (HS.out.get 1 rfl) 0, bc_ (HS.out.get 0 rfl) 0, pw_cell_below HS.out.B X0.out, pw_cell_below HS.out.B X1.out, pw_cell_below HS.out.B X2.out, pw_cell_below HS.out.B Y0.out, pw_cell_below HS.out.B Y1.out, pw_cell_below HS.out.B Y2.out⟩ (fun hHeld => ?_)
                refine pq_ (i := 0) (N := some 27) (bz 44 1) ?_
                refine tq_ (i := 1) (N := some 28) (bz 44 3) hHeld ?_
                refine pq_ (i := 2) (N := some 29) (bz 44 7) ?_
                refine pq_ (i := 3) (N := some 30) (bz 44 15) ?_
                refine pq_ (i := 4) (N := some 31) (bz 44 31) ?_
                refine tq_ (i := 5) (N := some 32) (bz 44 63) hHeld ?_
                refine pq_ (i := 6) (N := some 33) (bz 44 127) ?_
                refine tq_ (i := 7) (N := some 34) (bz 44 255) hHeld ?_
                refine pq_ (i := 8) (N := some 35) (bz 44 511) ?_
                refine pq_ (i := 9) (N := some 36) (bz 44 1023) ?_
                refine pq_ (i := 10) (N := some 37) (bz 44 2047) ?_
                refine tq_ (i := 11) (N := some 38) (bz 44 4095) hHeld ?_
                refine pq_ (i := 12) (N := some 39) (bz 44 8191) ?_
                refine pq_ (i := 13) (N := some 40) (bz 44 16383) ?_
                refine pq_ (i := 14) (N := some 41) (bz 44 32767) ?_
                refine tq_ (i := 15) (N := some 42) (bz 44 65535) hHeld ?_
                refine pq_ (i := 16) (N := some 43) (bz 44 131071) ?_
                refine pq_ (i := 17) (N := some 44) (bz 44 262143) ?_
                refine pq_ (i := 18) (N := some 45) (bz 44 524287) ?_
                refine tq_ (i := 19) (N := some 46) (bz 44 1048575) hHeld ?_
                refine pq_ (i := 20) (N := some 47) (bz 44 2097151) ?_
                refine tq_ (i := 21) (N := some 48) (bz 44 4194303) hHeld ?_
                refine pq_ (i := 22) (N := some 49) (bz 44 8388607) ?_
                refine pq_ (i := 23) (N := some 50) (bz 44 16777215) ?_
                refine pq_ (i := 24) (N := some 51) (bz 44 33554431) ?_
                refine tq_ (i := 25) (N := some 52) (bz 44 67108863) hHeld ?_
                refine pq_ (i := 26) (N := some 53) (bz 44 134217727) ?_
                refine pq_ (i := 27) (N := some 54) (bz 44 268435455) ?_
                refine pq_ (i := 28) (N := some 55) (bz 44 536870911) ?_
                refine pq_ (i := 29) (N := some 56) (bz 44 1073741823) ?_
                refine tq_ (i := 30) (N := some 57) (bz 44 2147483647) hHeld ?_
                refine pq_ (i := 31) (N := some 58) (bz 44 4294967295) ?_
                refine pq_ (i := 32) (N := some 59) (bz 44 8589934591) ?_
                refine pq_ (i := 33) (N := some 60) (bz 44 17179869183) ?_
                refine tq_ (i := 34) (N := some 61) (bz 44 34359738367) hHeld ?_
                refine pq_ (i := 35) (N := some 62) (bz 44 68719476735) ?_
                refine tq_ (i := 36) (N := some 63) (bz 44 137438953471) hHeld ?_
                refine pq_ (i := 37) (N := some 64) (bz 44 274877906943) ?_
                refine pq_ (i := 38) (N := some 65) (bz 44 549755813887) ?_
                refine pq_ (i := 39) (N := some 66) (bz 44 1099511627775) ?_
                refine tq_ (i := 40) (N := some 67) (bz 44 2199023255551) hHeld ?_
                refine one_ (l := (bz 44 2199023255551)) (i := 41) (N := some 68) (bz 44 4398046511103) rfl rfl (by kernel_rfl) (by decide) (fun K_ hK => ?_)
                refine goes_ Try.func34 (by kernel_rfl) rfl #[.slice A2 x.f2.length c2, .slice A3 y.f2.length c3] (by rfl) rfl rfl (by (try simp only [List.map_toArray, List.map_cons, List.map_nil]); first | done | rfl) ?_
                refine Calls.mono (trefoilref02_Ints.calls K A2 c2 x.f2 A3 c3 y.f2 true _ (Kd.C_below HX2.out HS.out.B) HX1.out (Kd.C_below HY2.out HS.out.B) HY1.out HV.out) ?_
                rintro e_ wb ⟨rfl, hb⟩
                refine ⟨_, rfl, ?_⟩
                have HN := Lib.hid (HS.out.below (Drawn0.below hb))
                clear HS hb
                have HS := Lib.hid HN.out
                clear HN
                refine hK.out _ _ ⟨bc_ (HS.out.get 1 rfl) 0, bc_ (HS.out.get 0 rfl) 0, pw_cell_below HS.out.B X0.out, pw_cell_below HS.out.B X1.out, pw_cell_below HS.out.B X2.out, pw_cell_below HS.out.B Y0.out, pw_cell_below HS.out.B Y1.out, pw_cell_below HS.out.B Y2.out⟩ (fun hHeld => ?_)
                clear hK K_
                refine norm_ (a' := ?_) ?_ ?_
                rotate_left
                · show Act.put _ (some 68) _ = _
                  simp only [Act.put, List.setIfInBounds_toArray, List.set_cons_zero, List.set_cons_succ, i64_w, i32_w]
                  rfl
                refine pq_ (i := 42) (N := some 69) (bz 44 8796093022207) ?_
                refine pq_ (i := 43) (N := some 70) (bz 44 17592186044415) ?_
                all_goals (refine done_ (by kernel_rfl) ?_)
                go_wp2
                go_roundw
                case rel => exact ⟨i_ + 1, by omega, by go_num, ⟨fun q hq => by rcases Nat.lt_or_ge q i_ with h | h; exact HQ.out q h; rw [show q = i_ by omega, HXY.out.1, HXY.out.2]; exact job_ext D1.out D2.out D3.out⟩, ⟨HS.out⟩⟩
                case measure => simp [intOf]; omega
end Go.Proofs.Yteodhffgnkdcfaa.Q
