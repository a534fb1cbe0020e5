/- A walk: what was added, and is taken away, leaves what there was. -/
import Derived.Test.YteodhffgnkdcfaaQx14
import Derived.Test.YteodhffgnkdcfaaQx11
import Derived.Test.YteodhffgnkdcfaaQx17
import Derived.Test.YteodhffgnkdcfaaLaneRSame
set_option linter.unusedVariables false
set_option linter.unusedSimpArgs false
namespace Go.Proofs.Yteodhffgnkdcfaa.Q
open Go.RowKit Go.Proofs.YteodhffgnkdcfaaW.PrintWords Go.Proofs.YteodhffgnkdcfaaW.PrintLast Go.Proofs.YteodhffgnkdcfaaW.PrintMore
attribute [local go_sem] max2_int min2_int max_two min_two max_three min_three max_four min_four
theorem find_ins {l : List J3} {run : Int} {j : J3} (h : okL l run) (hn : ¬ hasT l j.f0) : findI (insJ l j) j.f0 = (addAt l j.f0 : Nat) ∧ (insJ l j).eraseIdx (addAt l j.f0) = l := by
  have hle : addAt l j.f0 ≤ l.length := by
    unfold addAt
    exact (List.takeWhile_sublist _).length_le
  constructor
  · unfold findI idxP
    have key : ∀ l : List J3, ¬ hasT l j.f0 → (insJ l j).findIdx (fun x => x.f0 == j.f0) = addAt l j.f0 := by
      intro l
      induction l with
      | nil => intro _; unfold insJ addAt; simp
      | cons x l ih =>
        intro hx
        have hx0 : x.f0 ≠ j.f0 := fun e => hx ⟨x, List.mem_cons_self, e⟩
        unfold insJ addAt
        by_cases c : x.f0 < j.f0
        · rw [if_pos c, List.findIdx_cons, List.takeWhile_cons, if_pos (by simpa using c), List.length_cons]
          have e1 : (x.f0 == j.f0) = false := by simp [hx0]
          rw [e1]
          have := ih (fun ⟨y, hy, e⟩ => hx ⟨y, List.mem_cons_of_mem _ hy, e⟩)
          unfold addAt at this
          simp [this]
        · rw [if_neg c, List.findIdx_cons, List.takeWhile_cons, if_neg (by simpa using c)]
          simp
    rw [key l hn, if_pos (by rw [insJ_len]; omega)]
  · rw [← insJ_eq j l, List.eraseIdx_append_of_length_le (by rw [List.length_take]; omega), List.length_take, Nat.min_eq_left hle, Nat.sub_self, List.eraseIdx_cons_zero, List.take_append_drop]
/-- What was added is taken away. -/
theorem drop_back {l : List J3} {run : Int} {j : J3} {k : Nat} (hk : 1000 < k) (h : okL l run) (hj : okJ j) (hn : ¬ hasT l j.f0) : lane_Drop.f k (insJ l j) run j.f0 = some (l, run, 0) := by
  have hi := insJ_ok h hj hn
  obtain ⟨e1, e2⟩ := find_ins h hn
  unfold lane_Drop.f
  rw [check_yes (by have := hi.len; omega) hk hi]
  simp only [Option.bind_some, if_true]
  rw [e1, if_neg (by omega), if_pos hi.own, Int.toNat_natCast, e2, if_neg (fun e => by
    rcases h.2.2 with h2 | h2
    · have := hj.1; omega
    · exact hn (e ▸ h2))]
def trefoillaw18_LaneBack.f (k : Nat) (l : List J3) (a j0 j1 : Int) (lj : List Int) : Option Bool := some true
theorem laneBack (K : Nat) (hK : 3000 < K) (l : List J3) (a j0 j1 : Int) (lj : List Int) : trefoillaw18_LaneBack.f K l a j0 j1 lj = some true := rfl
set_option maxHeartbeats 16000000 in
set_option maxRecDepth 100000 in
theorem trefoillaw18_LaneBack.calls (k : Nat) (A0 : Option Addr) (c0 : Nat) (l : List J3) (a j0 j1 : Int) (A1 : Option Addr) (c1 : Nat) (lj : List Int) (r : Bool) (w : World) (hr : Kd.C k27 w A0 l.length l) (hc : l.length ≤ c0) (hr1 : Kd.C (Kd.int .i64) w A1 lj.length lj) (hc1 : lj.length ≤ c1) (h : trefoillaw18_LaneBack.f k l a j0 j1 lj = some r) :
    Calls Try.prog 6 #[.agg #[.slice A0 l.length c0, .int .i64 a], .agg #[.int .i64 j0, .int .i64 j1, .slice A1 lj.length c1]] w fun e w' => e = .returned (.bool r) ∧ Below w.heap.size w w' := by
  obtain rfl : true = r := Option.some.inj h
  obtain ⟨K, hK⟩ : ∃ K : Nat, 3000 < K := ⟨3001, by omega⟩
  have HR := Lib.hid hr
  have Hc := Lib.hid hc
  have HR1 := Lib.hid hr1
  have Hc1 := Lib.hid hc1
  have HS := Lib.hid (Sx.start w)
  clear hr hc hr1 hc1 h
  by_cases cf : fewL l
  case neg =>
    have HF := Lib.hid (few_no (a := a) (k := K) (by omega) cf)
    clear cf
    go_enter Try.func6, Try.ntmps6
    go_wp2_with (first | ((with_reducible refine gate_dst (N := 2) rfl ?_); refine box_event ?hg (N := 2) ?hd (cs := #[.slice A0 l.length c0, .int .i64 a]) (t := 24) ?hr ?_; (case hd => rfl); (case hg => rfl); (case hr => first | (go_simp; done) | (go_simp; rfl)); intro kl hE_ w1 hbox hb; have HN := Lib.hid (show Sx w [(kl, #[.slice A0 l.length c0, .int .i64 a], 24)] [] w1 from HS.out.box hE_ hbox hb); clear HS hE_ hbox hb; have HS := Lib.hid HN.out; clear HN) | ((with_reducible refine gate_dst (N := 3) rfl ?_); refine box_event ?hg (N := 3) ?hd (cs := #[.int .i64 j0, .int .i64 j1, .slice A1 lj.length c1]) (t := 27) ?hr ?_; (case hd => rfl); (case hg => rfl); (case hr => first | (go_simp; done) | (go_simp; rfl)); intro kj hE_ w2 hbox hb; have HN := Lib.hid (show Sx w [(kj, #[.int .i64 j0, .int .i64 j1, .slice A1 lj.length c1], 27), (kl, #[.slice A0 l.length c0, .int .i64 a], 24)] [] w2 from HS.out.box hE_ hbox hb); clear HS hE_ hbox hb; have HS := Lib.hid HN.out; clear HN) | (go_at_call 8; refine Calls.mono (trefoillaw18_awake.calls K true _ (lawake_eq K (by omega))) ?_; rintro e_ w3 ⟨rfl, hb⟩; have HN := Lib.hid (show Sx w [(kj, #[.int .i64 j0, .int .i64 j1, .slice A1 lj.length c1], 27), (kl, #[.slice A0 l.length c0, .int .i64 a], 24)] [] w3 from HS.out.below hb); clear HS hb; have HS := Lib.hid HN.out; clear HN) | ((with_reducible refine gate_dst (N := 14) rfl ?_); refine gate_guard (by rfl) ?_; dsimp only; refine wpList_load_row rfl 24 (.tmp 2) rfl kl rfl 24 #[.slice A0 l.length c0, .int .i64 a] (0, 0) _ (HS.out.get 1 rfl) Try.underlying24 rfl (by kernel_rfl) ?_) | ((with_reducible refine gate_dst (N := 14) rfl ?_); refine wpList_load_row rfl 24 (.tmp 2) rfl kl rfl 24 #[.slice A0 l.length c0, .int .i64 a] (0, 0) _ (HS.out.get 1 rfl) Try.underlying24 rfl (by kernel_rfl) ?_) | (go_at_call 9; refine Calls.mono (trefoilref18_Few.calls K A0 c0 l a false _ (Kd.C_below HR.out HS.out.B) Hc.out HF.out) ?_; rintro e_ w4 ⟨rfl, hb⟩; have HN := Lib.hid (show Sx w [(kj, #[.int .i64 j0, .int .i64 j1, .slice A1 lj.length c1], 27), (kl, #[.slice A0 l.length c0, .int .i64 a], 24)] [] w4 from HS.out.below hb); clear HS hb; have HS := Lib.hid HN.out; clear HN; have f2 : w4.cell? ⟨kj, 2, none⟩ = some (.slice A1 lj.length c1) := (blk_cell (HS.out.get 0 rfl) 2).trans rfl))
    go_ret
    exact ⟨rfl, HS.out.B⟩
  case pos =>
    have HF := Lib.hid (few_yes (a := a) (k := K) (by omega) cf)
    have hl : l.length ≤ 12 := cf.1
    have hl2 := Lib.hid (show ∀ x ∈ l, x.f2.length ≤ 1000 from fun x hx => by have := cf.2 x hx; omega)
    have HO := Lib.hid (lown_eq (l := l) (a := a) (k := K) (by omega) hl2.out (by omega))
    clear cf
    by_cases cj : 70 < lj.length
    case pos =>
      have cjb : decide ((70 : Int) < (lj.length : Int)) = true := decide_eq_true (by omega)
      have cjb2 : decide (70 < lj.length) = true := decide_eq_true cj
      clear cj
      go_enter Try.func6, Try.ntmps6
      go_wp2_with (first | ((with_reducible refine gate_dst (N := 2) rfl ?_); refine box_event ?hg (N := 2) ?hd (cs := #[.slice A0 l.length c0, .int .i64 a]) (t := 24) ?hr ?_; (case hd => rfl); (case hg => rfl); (case hr => first | (go_simp; done) | (go_simp; rfl)); intro kl hE_ w1 hbox hb; have HN := Lib.hid (show Sx w [(kl, #[.slice A0 l.length c0, .int .i64 a], 24)] [] w1 from HS.out.box hE_ hbox hb); clear HS hE_ hbox hb; have HS := Lib.hid HN.out; clear HN) | ((with_reducible refine gate_dst (N := 3) rfl ?_); refine box_event ?hg (N := 3) ?hd (cs := #[.int .i64 j0, .int .i64 j1, .slice A1 lj.length c1]) (t := 27) ?hr ?_; (case hd => rfl); (case hg => rfl); (case hr => first | (go_simp; done) | (go_simp; rfl)); intro kj hE_ w2 hbox hb; have HN := Lib.hid (show Sx w [(kj, #[.int .i64 j0, .int .i64 j1, .slice A1 lj.length c1], 27), (kl, #[.slice A0 l.length c0, .int .i64 a], 24)] [] w2 from HS.out.box hE_ hbox hb); clear HS hE_ hbox hb; have HS := Lib.hid HN.out; clear HN) | (go_at_call 8; refine Calls.mono (trefoillaw18_awake.calls K true _ (lawake_eq K (by omega))) ?_; rintro e_ w3 ⟨rfl, hb⟩; have HN := Lib.hid (show Sx w [(kj, #[.int .i64 j0, .int .i64 j1, .slice A1 lj.length c1], 27), (kl, #[.slice A0 l.length c0, .int .i64 a], 24)] [] w3 from HS.out.below hb); clear HS hb; have HS := Lib.hid HN.out; clear HN) | ((with_reducible refine gate_dst (N := 14) rfl ?_); refine gate_guard (by rfl) ?_; dsimp only; refine wpList_load_row rfl 24 (.tmp 2) rfl kl rfl 24 #[.slice A0 l.length c0, .int .i64 a] (0, 0) _ (HS.out.get 1 rfl) Try.underlying24 rfl (by kernel_rfl) ?_) | ((with_reducible refine gate_dst (N := 14) rfl ?_); refine wpList_load_row rfl 24 (.tmp 2) rfl kl rfl 24 #[.slice A0 l.length c0, .int .i64 a] (0, 0) _ (HS.out.get 1 rfl) Try.underlying24 rfl (by kernel_rfl) ?_) | (go_at_call 9; refine Calls.mono (trefoilref18_Few.calls K A0 c0 l a true _ (Kd.C_below HR.out HS.out.B) Hc.out HF.out) ?_; rintro e_ w4 ⟨rfl, hb⟩; have HN := Lib.hid (show Sx w [(kj, #[.int .i64 j0, .int .i64 j1, .slice A1 lj.length c1], 27), (kl, #[.slice A0 l.length c0, .int .i64 a], 24)] [] w4 from HS.out.below hb); clear HS hb; have HS := Lib.hid HN.out; clear HN; have f2 : w4.cell? ⟨kj, 2, none⟩ = some (.slice A1 lj.length c1) := (blk_cell (HS.out.get 0 rfl) 2).trans rfl))
      go_ret
      exact ⟨rfl, HS.out.B⟩
    case neg =>
      have cjb : decide ((70 : Int) < (lj.length : Int)) = false := decide_eq_false (by omega)
      have cjb2 : decide (70 < lj.length) = false := decide_eq_false cj
      have Hlj := Lib.hid cj
      clear cj
      obtain ⟨X, R, E, hA, hE, hX, hX0⟩ : ∃ X R E, lane_Add.f K l a j0 j1 lj = some (X, R, E) ∧ (E = 0 → okL l a ∧ okJ ⟨j0, j1, lj⟩ ∧ ¬ hasT l j0) ∧ (E = 0 → X = insJ l ⟨j0, j1, lj⟩ ∧ R = a) ∧ (E ≠ 0 → X = [] ∧ R = 0) := by
        by_cases c : okL l a ∧ okJ ⟨j0, j1, lj⟩
        · by_cases d : hasT l j0
          · exact ⟨_, _, _, add_task (by omega) c.1 c.2 d, fun h => absurd h (by decide), fun h => absurd h (by decide), fun _ => ⟨rfl, rfl⟩⟩
          · exact ⟨_, _, _, add_yes (by omega) c.1 c.2 d, fun _ => ⟨c.1, c.2, d⟩, fun _ => ⟨rfl, rfl⟩, fun h => absurd rfl h⟩
        · exact ⟨_, _, _, add_form (by omega) (by omega) c, fun h => absurd h (by decide), fun h => absurd h (by decide), fun _ => ⟨rfl, rfl⟩⟩
      have HA := Lib.hid hA
      have HE := Lib.hid hE
      have HX := Lib.hid hX
      have HX0 := Lib.hid hX0
      clear hA hE hX hX0
      go_enter Try.func6, Try.ntmps6
      go_wp2_with (first | ((with_reducible refine gate_dst (N := 2) rfl ?_); refine box_event ?hg (N := 2) ?hd (cs := #[.slice A0 l.length c0, .int .i64 a]) (t := 24) ?hr ?_; (case hd => rfl); (case hg => rfl); (case hr => first | (go_simp; done) | (go_simp; rfl)); intro kl hE_ w1 hbox hb; have HN := Lib.hid (show Sx w [(kl, #[.slice A0 l.length c0, .int .i64 a], 24)] [] w1 from HS.out.box hE_ hbox hb); clear HS hE_ hbox hb; have HS := Lib.hid HN.out; clear HN) | ((with_reducible refine gate_dst (N := 3) rfl ?_); refine box_event ?hg (N := 3) ?hd (cs := #[.int .i64 j0, .int .i64 j1, .slice A1 lj.length c1]) (t := 27) ?hr ?_; (case hd => rfl); (case hg => rfl); (case hr => first | (go_simp; done) | (go_simp; rfl)); intro kj hE_ w2 hbox hb; have HN := Lib.hid (show Sx w [(kj, #[.int .i64 j0, .int .i64 j1, .slice A1 lj.length c1], 27), (kl, #[.slice A0 l.length c0, .int .i64 a], 24)] [] w2 from HS.out.box hE_ hbox hb); clear HS hE_ hbox hb; have HS := Lib.hid HN.out; clear HN) | (go_at_call 8; refine Calls.mono (trefoillaw18_awake.calls K true _ (lawake_eq K (by omega))) ?_; rintro e_ w3 ⟨rfl, hb⟩; have HN := Lib.hid (show Sx w [(kj, #[.int .i64 j0, .int .i64 j1, .slice A1 lj.length c1], 27), (kl, #[.slice A0 l.length c0, .int .i64 a], 24)] [] w3 from HS.out.below hb); clear HS hb; have HS := Lib.hid HN.out; clear HN) | ((with_reducible refine gate_dst (N := 14) rfl ?_); refine gate_guard (by rfl) ?_; dsimp only; refine wpList_load_row rfl 24 (.tmp 2) rfl kl rfl 24 #[.slice A0 l.length c0, .int .i64 a] (0, 0) _ (HS.out.get 1 rfl) Try.underlying24 rfl (by kernel_rfl) ?_) | ((with_reducible refine gate_dst (N := 14) rfl ?_); refine wpList_load_row rfl 24 (.tmp 2) rfl kl rfl 24 #[.slice A0 l.length c0, .int .i64 a] (0, 0) _ (HS.out.get 1 rfl) Try.underlying24 rfl (by kernel_rfl) ?_) | (go_at_call 9; refine Calls.mono (trefoilref18_Few.calls K A0 c0 l a true _ (Kd.C_below HR.out HS.out.B) Hc.out HF.out) ?_; rintro e_ w4 ⟨rfl, hb⟩; have HN := Lib.hid (show Sx w [(kj, #[.int .i64 j0, .int .i64 j1, .slice A1 lj.length c1], 27), (kl, #[.slice A0 l.length c0, .int .i64 a], 24)] [] w4 from HS.out.below hb); clear HS hb; have HS := Lib.hid HN.out; clear HN; have f2 : w4.cell? ⟨kj, 2, none⟩ = some (.slice A1 lj.length c1) := (blk_cell (HS.out.get 0 rfl) 2).trans rfl))
      clear f2
      go_cut [5, 6] (fun v5 v6 wc => ∃ (kx : Nat) (Ax : Option Addr) (cx : Nat), v5 = .pointer (some ⟨kx, 0, none⟩) ∧ v6 = .int .i64 E ∧ Aside0 (X.length ≤ cx) ∧ Aside0 (Sx w [(kx, #[.slice Ax X.length cx, .int .i64 R], 24), (kj, #[.int .i64 j0, .int .i64 j1, .slice A1 lj.length c1], 27), (kl, #[.slice A0 l.length c0, .int .i64 a], 24)] [(fun W_ => Kd.C k27 W_ Ax X.length X)] wc))
      case first =>
        have HN := Lib.hid (HS.out.below (below_drew1 (Below.refl _ _)))
        clear HS
        have HS := Lib.hid HN.out
        clear HN
        refine start_ (n := 18) (S := fun W_ => W_.heap[kl]? = some (.cells #[.slice A0 l.length c0, .int .i64 a] 24 (0, 0)) ∧ W_.cell? ⟨kj, 0, none⟩ = some (.int .i64 j0) ∧ W_.cell? ⟨kj, 1, none⟩ = some (.int .i64 j1) ∧ W_.cell? ⟨kj, 2, none⟩ = some (.slice A1 lj.length c1)) (ds := []) (bz 18 0) (by kernel_rfl) rfl (by kernel_rfl) ⟨HS.out.get 1 rfl, bc_ (HS.out.get 0 rfl) 0, bc_ (HS.out.get 0 rfl) 1, bc_ (HS.out.get 0 rfl) 2⟩ (fun hHeld => ?_)
        refine tb_ (i := 0) (N := some 26) (bz 18 1) hHeld (v := .agg #[.slice A0 l.length c0, .int .i64 a]) (fun w' hs => run_load_row_ rfl kl rfl 24 _ _ hs.1 Try.underlying24 rfl (by kernel_rfl)) ?_
        refine pq_ (i := 2) (N := some 28) (bz 18 5) ?_
        refine tq_ (i := 3) (N := some 29) (bz 18 13) hHeld ?_
        refine pq_ (i := 4) (N := some 30) (bz 18 29) ?_
        refine tq_ (i := 5) (N := some 31) (bz 18 61) hHeld ?_
        refine pq_ (i := 7) (N := some 33) (bz 18 189) ?_
        refine tq_ (i := 8) (N := some 34) (bz 18 445) hHeld ?_
        refine three_ (l := (bz 18 445)) (i := 1) (j := 6) (k := 15) (Ni := some 27) (Nj := some 32) (Nk := some 5) (bz 18 447) (bz 18 509) (bz 18 33213) rfl rfl rfl rfl rfl rfl (by kernel_rfl) (by decide) (by decide) (by decide) (fun K_ hK => ?_) (fun K_ hK => ?_) (fun K_ hK => ?_)
        refine goes_ Try.func11 (by kernel_rfl) rfl #[.agg #[.slice A0 l.length c0, .int .i64 a]] (by rfl) rfl rfl (by (try simp only [List.map_toArray, List.map_cons, List.map_nil]); first | done | rfl) ?_
        refine Calls.mono (trefoillaw18_Own.calls K A0 c0 l a l a _ (Kd.C_below HR.out HS.out.B) Hc.out HO.out) ?_
        rintro e_ wb ⟨v_, rfl, hv_, hb⟩
        refine ⟨_, rfl, ?_⟩
        obtain ⟨Ao, co, rfl, hlo, hs_⟩ := HS.out.val hb (own_val hv_)
        have Ho := Lib.hid hlo
        have HN := Lib.hid hs_
        clear HS hb hv_ hs_ hlo
        have HS := Lib.hid HN.out
        clear HN
        refine hK.out _ _ ⟨HS.out.get 1 rfl, bc_ (HS.out.get 0 rfl) 0, bc_ (HS.out.get 0 rfl) 1, bc_ (HS.out.get 0 rfl) 2⟩ (fun hHeld => ?_)
        clear hK K_
        refine norm_ (a' := ?_) ?_ ?_
        rotate_left
        · show Act.put _ (some 27) _ = _
          simp only [Act.put, List.setIfInBounds_toArray, List.set_cons_zero, List.set_cons_succ, i64_w, i32_w]
          rfl
        rotate_left
        refine lit0_step (by rfl) rfl (t := 3) (by first | (go_simp; done) | (go_simp; rfl)) ?_
        intro gl hE_ wb hbox hb
        have HN := Lib.hid (HS.out.box hE_ hbox hb)
        clear HS hE_ hbox hb
        have HS := Lib.hid HN.out
        clear HN
        refine hK.out _ _ ⟨HS.out.get 2 rfl, bc_ (HS.out.get 1 rfl) 0, bc_ (HS.out.get 1 rfl) 1, bc_ (HS.out.get 1 rfl) 2⟩ (fun hHeld => ?_)
        clear hK K_
        refine norm_ (a' := ?_) ?_ ?_
        rotate_left
        · show Act.put _ (some 32) _ = _
          simp only [Act.put, List.setIfInBounds_toArray, List.set_cons_zero, List.set_cons_succ, i64_w, i32_w]
          rfl
        rotate_left
        refine boxed_step_ (by rfl) rfl (cs := #[.slice none 0 0, .int .i64 0]) (t := 24) (by first | (go_simp; done) | (go_simp; rfl)) ?_
        intro kx hE_ wb hbox hb
        have HN := Lib.hid (HS.out.box hE_ hbox hb)
        clear HS hE_ hbox hb
        have HS := Lib.hid HN.out
        clear HN
        refine hK.out _ _ ⟨HS.out.get 2 rfl, bc_ (HS.out.get 1 rfl) 0, bc_ (HS.out.get 1 rfl) 1, bc_ (HS.out.get 1 rfl) 2⟩ (fun hHeld => ?_)
        clear hK K_
        refine norm_ (a' := ?_) ?_ ?_
        rotate_left
        · show Act.put _ (some 5) _ = _
          simp only [Act.put, List.setIfInBounds_toArray, List.set_cons_zero, List.set_cons_succ, i64_w, i32_w]
          rfl
        rotate_left
        all_goals (first
          | (refine two_ (l := (bz 18 447)) (i := 6) (j := 15) (Ni := some 32) (Nj := some 5) (bz 18 511) (bz 18 33215) rfl rfl rfl rfl (by kernel_rfl) (by decide) (by decide) (fun K_ hK => ?_) (fun K_ hK => ?_)
             refine lit0_step (by rfl) rfl (t := 3) (by first | (go_simp; done) | (go_simp; rfl)) ?_
             intro gl hE_ wb hbox hb
             have HN := Lib.hid (HS.out.box hE_ hbox hb)
             clear HS hE_ hbox hb
             have HS := Lib.hid HN.out
             clear HN
             refine hK.out _ _ ⟨HS.out.get 2 rfl, bc_ (HS.out.get 1 rfl) 0, bc_ (HS.out.get 1 rfl) 1, bc_ (HS.out.get 1 rfl) 2⟩ (fun hHeld => ?_)
             clear hK K_
             refine norm_ (a' := ?_) ?_ ?_
             rotate_left
             · show Act.put _ (some 32) _ = _
               simp only [Act.put, List.setIfInBounds_toArray, List.set_cons_zero, List.set_cons_succ, i64_w, i32_w]
               rfl
             rotate_left
             refine boxed_step_ (by rfl) rfl (cs := #[.slice none 0 0, .int .i64 0]) (t := 24) (by first | (go_simp; done) | (go_simp; rfl)) ?_
             intro kx hE_ wb hbox hb
             have HN := Lib.hid (HS.out.box hE_ hbox hb)
             clear HS hE_ hbox hb
             have HS := Lib.hid HN.out
             clear HN
             refine hK.out _ _ ⟨HS.out.get 2 rfl, bc_ (HS.out.get 1 rfl) 0, bc_ (HS.out.get 1 rfl) 1, bc_ (HS.out.get 1 rfl) 2⟩ (fun hHeld => ?_)
             clear hK K_
             refine norm_ (a' := ?_) ?_ ?_
             rotate_left
             · show Act.put _ (some 5) _ = _
               simp only [Act.put, List.setIfInBounds_toArray, List.set_cons_zero, List.set_cons_succ, i64_w, i32_w]
               rfl
             rotate_left
             )
          | (refine two_ (l := (bz 18 509)) (i := 1) (j := 15) (Ni := some 27) (Nj := some 5) (bz 18 511) (bz 18 33277) rfl rfl rfl rfl (by kernel_rfl) (by decide) (by decide) (fun K_ hK => ?_) (fun K_ hK => ?_)
             refine goes_ Try.func11 (by kernel_rfl) rfl #[.agg #[.slice A0 l.length c0, .int .i64 a]] (by rfl) rfl rfl (by (try simp only [List.map_toArray, List.map_cons, List.map_nil]); first | done | rfl) ?_
             refine Calls.mono (trefoillaw18_Own.calls K A0 c0 l a l a _ (Kd.C_below HR.out HS.out.B) Hc.out HO.out) ?_
             rintro e_ wb ⟨v_, rfl, hv_, hb⟩
             refine ⟨_, rfl, ?_⟩
             obtain ⟨Ao, co, rfl, hlo, hs_⟩ := HS.out.val hb (own_val hv_)
             have Ho := Lib.hid hlo
             have HN := Lib.hid hs_
             clear HS hb hv_ hs_ hlo
             have HS := Lib.hid HN.out
             clear HN
             refine hK.out _ _ ⟨HS.out.get 2 rfl, bc_ (HS.out.get 1 rfl) 0, bc_ (HS.out.get 1 rfl) 1, bc_ (HS.out.get 1 rfl) 2⟩ (fun hHeld => ?_)
             clear hK K_
             refine norm_ (a' := ?_) ?_ ?_
             rotate_left
             · show Act.put _ (some 27) _ = _
               simp only [Act.put, List.setIfInBounds_toArray, List.set_cons_zero, List.set_cons_succ, i64_w, i32_w]
               rfl
             rotate_left
             refine boxed_step_ (by rfl) rfl (cs := #[.slice none 0 0, .int .i64 0]) (t := 24) (by first | (go_simp; done) | (go_simp; rfl)) ?_
             intro kx hE_ wb hbox hb
             have HN := Lib.hid (HS.out.box hE_ hbox hb)
             clear HS hE_ hbox hb
             have HS := Lib.hid (show Sx w [(gl, #[], 3), (kx, #[.slice none 0 0, .int .i64 0], 24), (kj, #[.int .i64 j0, .int .i64 j1, .slice A1 lj.length c1], 27), (kl, #[.slice A0 l.length c0, .int .i64 a], 24)] [] _ from HN.out.perm (.trans (.swap _ _ _) (.cons _ (.refl _))) (.refl _))
             clear HN
             refine hK.out _ _ ⟨HS.out.get 3 rfl, bc_ (HS.out.get 2 rfl) 0, bc_ (HS.out.get 2 rfl) 1, bc_ (HS.out.get 2 rfl) 2⟩ (fun hHeld => ?_)
             clear hK K_
             refine norm_ (a' := ?_) ?_ ?_
             rotate_left
             · show Act.put _ (some 5) _ = _
               simp only [Act.put, List.setIfInBounds_toArray, List.set_cons_zero, List.set_cons_succ, i64_w, i32_w]
               rfl
             rotate_left
             )
          | (refine two_ (l := (bz 18 33213)) (i := 1) (j := 6) (Ni := some 27) (Nj := some 32) (bz 18 33215) (bz 18 33277) rfl rfl rfl rfl (by kernel_rfl) (by decide) (by decide) (fun K_ hK => ?_) (fun K_ hK => ?_)
             refine goes_ Try.func11 (by kernel_rfl) rfl #[.agg #[.slice A0 l.length c0, .int .i64 a]] (by rfl) rfl rfl (by (try simp only [List.map_toArray, List.map_cons, List.map_nil]); first | done | rfl) ?_
             refine Calls.mono (trefoillaw18_Own.calls K A0 c0 l a l a _ (Kd.C_below HR.out HS.out.B) Hc.out HO.out) ?_
             rintro e_ wb ⟨v_, rfl, hv_, hb⟩
             refine ⟨_, rfl, ?_⟩
             obtain ⟨Ao, co, rfl, hlo, hs_⟩ := HS.out.val hb (own_val hv_)
             have Ho := Lib.hid hlo
             have HN := Lib.hid hs_
             clear HS hb hv_ hs_ hlo
             have HS := Lib.hid HN.out
             clear HN
             refine hK.out _ _ ⟨HS.out.get 2 rfl, bc_ (HS.out.get 1 rfl) 0, bc_ (HS.out.get 1 rfl) 1, bc_ (HS.out.get 1 rfl) 2⟩ (fun hHeld => ?_)
             clear hK K_
             refine norm_ (a' := ?_) ?_ ?_
             rotate_left
             · show Act.put _ (some 27) _ = _
               simp only [Act.put, List.setIfInBounds_toArray, List.set_cons_zero, List.set_cons_succ, i64_w, i32_w]
               rfl
             rotate_left
             refine lit0_step (by rfl) rfl (t := 3) (by first | (go_simp; done) | (go_simp; rfl)) ?_
             intro gl hE_ wb hbox hb
             have HN := Lib.hid (HS.out.box hE_ hbox hb)
             clear HS hE_ hbox hb
             have HS := Lib.hid HN.out
             clear HN
             refine hK.out _ _ ⟨HS.out.get 3 rfl, bc_ (HS.out.get 2 rfl) 0, bc_ (HS.out.get 2 rfl) 1, bc_ (HS.out.get 2 rfl) 2⟩ (fun hHeld => ?_)
             clear hK K_
             refine norm_ (a' := ?_) ?_ ?_
             rotate_left
             · show Act.put _ (some 32) _ = _
               simp only [Act.put, List.setIfInBounds_toArray, List.set_cons_zero, List.set_cons_succ, i64_w, i32_w]
               rfl
             rotate_left
             )
          )
        all_goals (first
          | (refine two_ (l := (bz 18 511)) (i := 9) (j := 15) (Ni := some 35) (Nj := some 5) (bz 18 1023) (bz 18 33279) rfl rfl rfl rfl (by kernel_rfl) (by decide) (by decide) (fun K_ hK => ?_) (fun K_ hK => ?_)
             have HG := Lib.hid (show Sx w [(gl, #[], 3), (kj, #[.int .i64 j0, .int .i64 j1, .slice A1 lj.length c1], 27), (kl, #[.slice A0 l.length c0, .int .i64 a], 24)] [(fun W_ => Kd.C k27 W_ Ao l.length l)] _ from HS.out.perm (List.Perm.symm (.refl _)) (.refl _))
             refine Kd.R_append_rows_step (Kd.int .i64) (w0 := w) w.heap.size (by rfl) (.tmp 32) (.tmp 34) 25 3 (.int .i64 0) 8 rfl Try.underlying25 info3 rfl (by decide) (by omega) (.slice (some ⟨gl, 0, none⟩) 0 0) [] lj _ _ _ (fun _ => True) (fun _ => False) rfl rfl ?aO ?aR (fun _ _ h => h) (fun _ h => h.elim) (fun _ _ => trivial) HS.out.B HS.out.B.size ?aL ?_
             (case aO => exact lit0_R (HS.out.bx 0 _ rfl).2 (HS.out.get 0 rfl))
             (case aR => exact Kd.C_below HR1.out HS.out.B)
             (case aL => have := Hlj.out; simp; omega)
             intro v_ wb hv_ hB_ hg_ hat_
             clear hat_
             rw [List.nil_append] at hv_
             obtain ⟨Au, cu, rfl, hlu, hs_⟩ := HG.out.app hB_ hg_ hv_ rfl
             have Hu := Lib.hid hlu
             have HN := Lib.hid hs_
             clear HS HG hv_ hB_ hg_ hs_ hlu
             have HS := Lib.hid HN.out
             clear HN
             refine hK.out _ _ ⟨HS.out.get 1 rfl, bc_ (HS.out.get 0 rfl) 0, bc_ (HS.out.get 0 rfl) 1, bc_ (HS.out.get 0 rfl) 2⟩ (fun hHeld => ?_)
             clear hK K_
             refine norm_ (a' := ?_) ?_ ?_
             rotate_left
             · show Act.put _ (some 35) _ = _
               simp only [Act.put, List.setIfInBounds_toArray, List.set_cons_zero, List.set_cons_succ, i64_w, i32_w]
               rfl
             refine pq_ (i := 10) (N := some 36) (bz 18 2047) ?_
             rotate_left
             refine boxed_step_ (by rfl) rfl (cs := #[.slice none 0 0, .int .i64 0]) (t := 24) (by first | (go_simp; done) | (go_simp; rfl)) ?_
             intro kx hE_ wb hbox hb
             have HN := Lib.hid (HS.out.box hE_ hbox hb)
             clear HS hE_ hbox hb
             have HS := Lib.hid (show Sx w [(gl, #[], 3), (kx, #[.slice none 0 0, .int .i64 0], 24), (kj, #[.int .i64 j0, .int .i64 j1, .slice A1 lj.length c1], 27), (kl, #[.slice A0 l.length c0, .int .i64 a], 24)] [(fun W_ => Kd.C k27 W_ Ao l.length l)] _ from HN.out.perm (.trans (.swap _ _ _) (.cons _ (.refl _))) (.refl _))
             clear HN
             refine hK.out _ _ ⟨HS.out.get 3 rfl, bc_ (HS.out.get 2 rfl) 0, bc_ (HS.out.get 2 rfl) 1, bc_ (HS.out.get 2 rfl) 2⟩ (fun hHeld => ?_)
             clear hK K_
             refine norm_ (a' := ?_) ?_ ?_
             rotate_left
             · show Act.put _ (some 5) _ = _
               simp only [Act.put, List.setIfInBounds_toArray, List.set_cons_zero, List.set_cons_succ, i64_w, i32_w]
               rfl
             rotate_left
             )
          | (refine one_ (l := (bz 18 33215)) (i := 6) (N := some 32) (bz 18 33279) rfl rfl (by kernel_rfl) (by decide) (fun K_ hK => ?_)
             refine lit0_step (by rfl) rfl (t := 3) (by first | (go_simp; done) | (go_simp; rfl)) ?_
             intro gl hE_ wb hbox hb
             have HN := Lib.hid (HS.out.box hE_ hbox hb)
             clear HS hE_ hbox hb
             have HS := Lib.hid HN.out
             clear HN
             refine hK.out _ _ ⟨HS.out.get 3 rfl, bc_ (HS.out.get 2 rfl) 0, bc_ (HS.out.get 2 rfl) 1, bc_ (HS.out.get 2 rfl) 2⟩ (fun hHeld => ?_)
             clear hK K_
             refine norm_ (a' := ?_) ?_ ?_
             rotate_left
             · show Act.put _ (some 32) _ = _
               simp only [Act.put, List.setIfInBounds_toArray, List.set_cons_zero, List.set_cons_succ, i64_w, i32_w]
               rfl
             )
          | (refine one_ (l := (bz 18 33277)) (i := 1) (N := some 27) (bz 18 33279) rfl rfl (by kernel_rfl) (by decide) (fun K_ hK => ?_)
             refine goes_ Try.func11 (by kernel_rfl) rfl #[.agg #[.slice A0 l.length c0, .int .i64 a]] (by rfl) rfl rfl (by (try simp only [List.map_toArray, List.map_cons, List.map_nil]); first | done | rfl) ?_
             refine Calls.mono (trefoillaw18_Own.calls K A0 c0 l a l a _ (Kd.C_below HR.out HS.out.B) Hc.out HO.out) ?_
             rintro e_ wb ⟨v_, rfl, hv_, hb⟩
             refine ⟨_, rfl, ?_⟩
             obtain ⟨Ao, co, rfl, hlo, hs_⟩ := HS.out.val hb (own_val hv_)
             have Ho := Lib.hid hlo
             have HN := Lib.hid hs_
             clear HS hb hv_ hs_ hlo
             have HS := Lib.hid HN.out
             clear HN
             refine hK.out _ _ ⟨HS.out.get 3 rfl, bc_ (HS.out.get 2 rfl) 0, bc_ (HS.out.get 2 rfl) 1, bc_ (HS.out.get 2 rfl) 2⟩ (fun hHeld => ?_)
             clear hK K_
             refine norm_ (a' := ?_) ?_ ?_
             rotate_left
             · show Act.put _ (some 27) _ = _
               simp only [Act.put, List.setIfInBounds_toArray, List.set_cons_zero, List.set_cons_succ, i64_w, i32_w]
               rfl
             )
          )
        all_goals (first
          | (refine two_ (l := (bz 18 2047)) (i := 11) (j := 15) (Ni := some 37) (Nj := some 5) (bz 18 4095) (bz 18 34815) rfl rfl rfl rfl (by kernel_rfl) (by decide) (by decide) (fun K_ hK => ?_) (fun K_ hK => ?_)
             refine goes_ Try.func10 (by kernel_rfl) rfl #[.agg #[.slice Ao l.length co, .int .i64 a], .agg #[.int .i64 j0, .int .i64 j1, .slice Au lj.length cu]] (by rfl) rfl rfl (by (try simp only [List.map_toArray, List.map_cons, List.map_nil]); first | done | rfl) ?_
             refine Calls.mono (lane_Add.calls K Ao co l a j0 j1 Au cu lj X R E _ (HS.out.now 1 rfl) Ho.out (HS.out.now 0 rfl) Hu.out HA.out) ?_
             rintro e_ wb ⟨v_, rfl, hv_, hb⟩
             refine ⟨_, rfl, ?_⟩
             obtain ⟨Ax, cx, rfl, hlx, hs_⟩ := HS.out.val hb hv_
             have Hx := Lib.hid hlx
             have HN := Lib.hid hs_
             clear HS hb hv_ hs_ hlx
             have HS := Lib.hid (show Sx w [(kj, #[.int .i64 j0, .int .i64 j1, .slice A1 lj.length c1], 27), (kl, #[.slice A0 l.length c0, .int .i64 a], 24)] [(fun W_ => Kd.C (Kd.int .i64) W_ Au lj.length lj), (fun W_ => Kd.C k27 W_ Ao l.length l), (fun W_ => Kd.C k27 W_ Ax X.length X)] _ from HN.out.perm (.refl _) (.trans (.swap _ _ _) (.cons _ (.trans (.swap _ _ _) (.cons _ (.refl _))))))
             clear HN
             refine hK.out _ _ ⟨HS.out.get 1 rfl, bc_ (HS.out.get 0 rfl) 0, bc_ (HS.out.get 0 rfl) 1, bc_ (HS.out.get 0 rfl) 2⟩ (fun hHeld => ?_)
             clear hK K_
             refine norm_ (a' := ?_) ?_ ?_
             rotate_left
             · show Act.put _ (some 37) _ = _
               simp only [Act.put, List.setIfInBounds_toArray, List.set_cons_zero, List.set_cons_succ, i64_w, i32_w]
               rfl
             refine pq_ (i := 12) (N := some 25) (bz 18 8191) ?_
             refine pq_ (i := 13) (N := some 38) (bz 18 16383) ?_
             refine pq_ (i := 14) (N := some 39) (bz 18 32767) ?_
             rotate_left
             refine boxed_step_ (by rfl) rfl (cs := #[.slice none 0 0, .int .i64 0]) (t := 24) (by first | (go_simp; done) | (go_simp; rfl)) ?_
             intro kx hE_ wb hbox hb
             have HN := Lib.hid (HS.out.box hE_ hbox hb)
             clear HS hE_ hbox hb
             have HS := Lib.hid HN.out
             clear HN
             refine hK.out _ _ ⟨HS.out.get 2 rfl, bc_ (HS.out.get 1 rfl) 0, bc_ (HS.out.get 1 rfl) 1, bc_ (HS.out.get 1 rfl) 2⟩ (fun hHeld => ?_)
             clear hK K_
             refine norm_ (a' := ?_) ?_ ?_
             rotate_left
             · show Act.put _ (some 5) _ = _
               simp only [Act.put, List.setIfInBounds_toArray, List.set_cons_zero, List.set_cons_succ, i64_w, i32_w]
               rfl
             rotate_left
             )
          | (refine one_ (l := (bz 18 33279)) (i := 9) (N := some 35) (bz 18 33791) rfl rfl (by kernel_rfl) (by decide) (fun K_ hK => ?_)
             have HG := Lib.hid (show Sx w [(gl, #[], 3), (kx, #[.slice none 0 0, .int .i64 0], 24), (kj, #[.int .i64 j0, .int .i64 j1, .slice A1 lj.length c1], 27), (kl, #[.slice A0 l.length c0, .int .i64 a], 24)] [(fun W_ => Kd.C k27 W_ Ao l.length l)] _ from HS.out.perm (List.Perm.symm (.refl _)) (.refl _))
             refine Kd.R_append_rows_step (Kd.int .i64) (w0 := w) w.heap.size (by rfl) (.tmp 32) (.tmp 34) 25 3 (.int .i64 0) 8 rfl Try.underlying25 info3 rfl (by decide) (by omega) (.slice (some ⟨gl, 0, none⟩) 0 0) [] lj _ _ _ (fun _ => True) (fun _ => False) rfl rfl ?aO ?aR (fun _ _ h => h) (fun _ h => h.elim) (fun _ _ => trivial) HS.out.B HS.out.B.size ?aL ?_
             (case aO => exact lit0_R (HS.out.bx 0 _ rfl).2 (HS.out.get 0 rfl))
             (case aR => exact Kd.C_below HR1.out HS.out.B)
             (case aL => have := Hlj.out; simp; omega)
             intro v_ wb hv_ hB_ hg_ hat_
             clear hat_
             rw [List.nil_append] at hv_
             obtain ⟨Au, cu, rfl, hlu, hs_⟩ := HG.out.app hB_ hg_ hv_ rfl
             have Hu := Lib.hid hlu
             have HN := Lib.hid hs_
             clear HS HG hv_ hB_ hg_ hs_ hlu
             have HS := Lib.hid HN.out
             clear HN
             refine hK.out _ _ ⟨HS.out.get 2 rfl, bc_ (HS.out.get 1 rfl) 0, bc_ (HS.out.get 1 rfl) 1, bc_ (HS.out.get 1 rfl) 2⟩ (fun hHeld => ?_)
             clear hK K_
             refine norm_ (a' := ?_) ?_ ?_
             rotate_left
             · show Act.put _ (some 35) _ = _
               simp only [Act.put, List.setIfInBounds_toArray, List.set_cons_zero, List.set_cons_succ, i64_w, i32_w]
               rfl
             refine pq_ (i := 10) (N := some 36) (bz 18 34815) ?_
             )
          )
        all_goals (first
          | (refine one_ (l := (bz 18 32767)) (i := 15) (N := some 5) (bz 18 65535) rfl rfl (by kernel_rfl) (by decide) (fun K_ hK => ?_)
             refine boxed_step_ (by rfl) rfl (cs := #[.slice none 0 0, .int .i64 0]) (t := 24) (by first | (go_simp; done) | (go_simp; rfl)) ?_
             intro kx hE_ wb hbox hb
             have HN := Lib.hid (HS.out.box hE_ hbox hb)
             clear HS hE_ hbox hb
             have HS := Lib.hid HN.out
             clear HN
             refine hK.out _ _ ⟨HS.out.get 2 rfl, bc_ (HS.out.get 1 rfl) 0, bc_ (HS.out.get 1 rfl) 1, bc_ (HS.out.get 1 rfl) 2⟩ (fun hHeld => ?_)
             clear hK K_
             refine norm_ (a' := ?_) ?_ ?_
             rotate_left
             · show Act.put _ (some 5) _ = _
               simp only [Act.put, List.setIfInBounds_toArray, List.set_cons_zero, List.set_cons_succ, i64_w, i32_w]
               rfl
             )
          | (refine one_ (l := (bz 18 34815)) (i := 11) (N := some 37) (bz 18 36863) rfl rfl (by kernel_rfl) (by decide) (fun K_ hK => ?_)
             refine goes_ Try.func10 (by kernel_rfl) rfl #[.agg #[.slice Ao l.length co, .int .i64 a], .agg #[.int .i64 j0, .int .i64 j1, .slice Au lj.length cu]] (by rfl) rfl rfl (by (try simp only [List.map_toArray, List.map_cons, List.map_nil]); first | done | rfl) ?_
             refine Calls.mono (lane_Add.calls K Ao co l a j0 j1 Au cu lj X R E _ (HS.out.now 1 rfl) Ho.out (HS.out.now 0 rfl) Hu.out HA.out) ?_
             rintro e_ wb ⟨v_, rfl, hv_, hb⟩
             refine ⟨_, rfl, ?_⟩
             obtain ⟨Ax, cx, rfl, hlx, hs_⟩ := HS.out.val hb hv_
             have Hx := Lib.hid hlx
             have HN := Lib.hid hs_
             clear HS hb hv_ hs_ hlx
             have HS := Lib.hid (show Sx w [(kx, #[.slice none 0 0, .int .i64 0], 24), (kj, #[.int .i64 j0, .int .i64 j1, .slice A1 lj.length c1], 27), (kl, #[.slice A0 l.length c0, .int .i64 a], 24)] [(fun W_ => Kd.C (Kd.int .i64) W_ Au lj.length lj), (fun W_ => Kd.C k27 W_ Ao l.length l), (fun W_ => Kd.C k27 W_ Ax X.length X)] _ from HN.out.perm (.refl _) (.trans (.swap _ _ _) (.cons _ (.trans (.swap _ _ _) (.cons _ (.refl _))))))
             clear HN
             refine hK.out _ _ ⟨HS.out.get 2 rfl, bc_ (HS.out.get 1 rfl) 0, bc_ (HS.out.get 1 rfl) 1, bc_ (HS.out.get 1 rfl) 2⟩ (fun hHeld => ?_)
             clear hK K_
             refine norm_ (a' := ?_) ?_ ?_
             rotate_left
             · show Act.put _ (some 37) _ = _
               simp only [Act.put, List.setIfInBounds_toArray, List.set_cons_zero, List.set_cons_succ, i64_w, i32_w]
               rfl
             refine pq_ (i := 12) (N := some 25) (bz 18 40959) ?_
             refine pq_ (i := 13) (N := some 38) (bz 18 49151) ?_
             refine pq_ (i := 14) (N := some 39) (bz 18 65535) ?_
             )
          )
        all_goals (
          refine one_ (l := (bz 18 65535)) (i := 16) (N := none) (bz 18 131071) rfl rfl (by kernel_rfl) (by decide) (fun K_ hK => ?_)
          refine skip_ (by rfl) rfl (run_store_row_ rfl kx rfl #[.slice Ax X.length cx, .int .i64 R] #[.slice none 0 0, .int .i64 0] 24 (HS.out.get 0 rfl) rfl (by kernel_rfl) rfl rfl) ?_
          have HN := Lib.hid (show Sx w [(kx, #[.slice Ax X.length cx, .int .i64 R], 24), (kj, #[.int .i64 j0, .int .i64 j1, .slice A1 lj.length c1], 27), (kl, #[.slice A0 l.length c0, .int .i64 a], 24)] [(fun W_ => Kd.C (Kd.int .i64) W_ Au lj.length lj), (fun W_ => Kd.C k27 W_ Ao l.length l), (fun W_ => Kd.C k27 W_ Ax X.length X)] _ from HS.out.row 0 rfl #[.slice Ax X.length cx, .int .i64 R])
          clear HS
          have HS := Lib.hid HN.out
          clear HN
          refine hK.out _ _ ⟨HS.out.get 2 rfl, bc_ (HS.out.get 1 rfl) 0, bc_ (HS.out.get 1 rfl) 1, bc_ (HS.out.get 1 rfl) 2⟩ (fun hHeld => ?_)
          clear hK K_
          refine pq_ (i := 17) (N := some 6) (bz 18 262143) ?_
          )
        all_goals (refine done_ (by kernel_rfl) ?_)
        all_goals (
          try go_wp2
          go_meet
          exact ⟨kx, Ax, cx, rfl, rfl, ⟨Hx.out⟩, ⟨HS.out.lose.lose⟩⟩
          )
      case rest =>
        clear HS HO
        obtain ⟨kx, Ax, cx, rfl, rfl, Hx0, HS0⟩ := hcut
        have HS := Lib.hid HS0.out
        have Hx := Lib.hid Hx0.out
        clear HS0 Hx0
        by_cases cE : E = 0
        case neg =>
          have cEb : (E != 0) = true := by simp [cE]
          have hT := Lib.hid (sameL_yes (HX0.out cE).1 (HX0.out cE).2)
          clear cE
          go_wp2_with (first | ((with_reducible refine gate_dst (N := 42) rfl ?_); refine wpList_load_row rfl 24 (.tmp 5) rfl kx rfl 24 #[.slice Ax X.length cx, .int .i64 R] (0, 0) _ (HS.out.get 0 rfl) Try.underlying24 rfl (by kernel_rfl) ?_) | (go_at_call 19; refine Calls.mono (rsame_calls Ax cx X R none 0 [] 0 _ (HS.out.now 0 rfl) (Kd.C_nil _ _) (fun x hx => by rw [(HX0.out (by intro e; rw [e] at cEb; cases cEb)).1] at hx; cases hx)) ?_; rintro e_ w21 ⟨rfl, hb⟩; have HN := Lib.hid (show Sx w [(kx, #[.slice Ax X.length cx, .int .i64 R], 24), (kj, #[.int .i64 j0, .int .i64 j1, .slice A1 lj.length c1], 27), (kl, #[.slice A0 l.length c0, .int .i64 a], 24)] [(fun W_ => Kd.C k27 W_ Ax X.length X)] w21 from HS.out.below hb); clear HS hb; have HS := Lib.hid HN.out; clear HN))
          go_ret
          rw [hT.out]
          exact ⟨rfl, HS.out.B⟩
        case pos =>
          subst cE
          have cEb : ((0 : Int) != 0) = false := rfl
          obtain ⟨hXe, rfl⟩ := HX.out rfl
          obtain ⟨hok, hoj, hnh⟩ := HE.out rfl
          have hokX := insJ_ok hok hoj hnh
          rw [← hXe] at hokX
          have HOX := Lib.hid (lown_eq (l := X) (a := R) (k := K) (by have := hokX.len; omega) hokX.left (by omega))
          have HD := Lib.hid (drop_back (k := K) (by omega) hok hoj hnh)
          rw [← hXe] at HD
          have HK := Lib.hid (check_yes (k := K) (by have := hokX.len; omega) (by omega) hokX)
          have HA2 := Lib.hid (add_task (k := K) (x0 := j0) (x1 := j1) (x2 := lj) (by omega) hokX hoj (by rw [hXe]; exact hasT_ins.2 (.inl rfl)))
          have Hlen := Lib.hid (show X.length = l.length + 1 by rw [hXe, insJ_len])
          clear hok hoj hnh hokX hXe HX HX0 HE HA
          go_wp2
          go_cut [7, 8] (fun v7 v8 wc => ∃ (ky : Nat) (Ay : Option Addr) (cy : Nat), v7 = .pointer (some ⟨ky, 0, none⟩) ∧ v8 = .int .i64 0 ∧ Aside0 (l.length ≤ cy) ∧ Aside0 (Sx w [(ky, #[.slice Ay l.length cy, .int .i64 R], 24), (kx, #[.slice Ax X.length cx, .int .i64 R], 24), (kj, #[.int .i64 j0, .int .i64 j1, .slice A1 lj.length c1], 27), (kl, #[.slice A0 l.length c0, .int .i64 R], 24)] [(fun W_ => Kd.C k27 W_ Ay l.length l), (fun W_ => Kd.C k27 W_ Ax X.length X)] wc))
          case first =>
            have HN := Lib.hid (HS.out.below (below_drew1 (Below.refl _ _)))
            clear HS
            have HS := Lib.hid HN.out
            clear HN
            refine start_ (n := 11) (S := fun W_ => W_.heap[kx]? = some (.cells #[.slice Ax X.length cx, .int .i64 R] 24 (0, 0)) ∧ W_.cell? ⟨kj, 0, none⟩ = some (.int .i64 j0)) (ds := []) (bz 11 0) (by kernel_rfl) rfl (by kernel_rfl) ⟨HS.out.get 0 rfl, bc_ (HS.out.get 1 rfl) 0⟩ (fun hHeld => ?_)
            refine tb_ (i := 0) (N := some 46) (bz 11 1) hHeld (v := .agg #[.slice Ax X.length cx, .int .i64 R]) (fun w' hs => run_load_row_ rfl kx rfl 24 _ _ hs.1 Try.underlying24 rfl (by kernel_rfl)) ?_
            refine pq_ (i := 2) (N := some 48) (bz 11 5) ?_
            refine tq_ (i := 3) (N := some 49) (bz 11 13) hHeld ?_
            refine two_ (l := (bz 11 13)) (i := 1) (j := 8) (Ni := some 47) (Nj := some 7) (bz 11 15) (bz 11 269) rfl rfl rfl rfl (by kernel_rfl) (by decide) (by decide) (fun K_ hK => ?_) (fun K_ hK => ?_)
            refine goes_ Try.func11 (by kernel_rfl) rfl #[.agg #[.slice Ax X.length cx, .int .i64 R]] (by rfl) rfl rfl (by (try simp only [List.map_toArray, List.map_cons, List.map_nil]); first | done | rfl) ?_
            refine Calls.mono (trefoillaw18_Own.calls K Ax cx X R X R _ (HS.out.now 0 rfl) Hx.out HOX.out) ?_
            rintro e_ wb ⟨v_, rfl, hv_, hb⟩
            refine ⟨_, rfl, ?_⟩
            obtain ⟨Ap, cp, rfl, hlp, hs_⟩ := HS.out.val hb (own_val hv_)
            have Hp := Lib.hid hlp
            have HN := Lib.hid hs_
            clear HS hb hv_ hs_ hlp
            have HS := Lib.hid HN.out
            clear HN
            refine hK.out _ _ ⟨HS.out.get 0 rfl, bc_ (HS.out.get 1 rfl) 0⟩ (fun hHeld => ?_)
            clear hK K_
            refine norm_ (a' := ?_) ?_ ?_
            rotate_left
            · show Act.put _ (some 47) _ = _
              simp only [Act.put, List.setIfInBounds_toArray, List.set_cons_zero, List.set_cons_succ, i64_w, i32_w]
              rfl
            rotate_left
            refine boxed_step_ (by rfl) rfl (cs := #[.slice none 0 0, .int .i64 0]) (t := 24) (by first | (go_simp; done) | (go_simp; rfl)) ?_
            intro ky hE_ wb hbox hb
            have HN := Lib.hid (HS.out.box hE_ hbox hb)
            clear HS hE_ hbox hb
            have HS := Lib.hid HN.out
            clear HN
            refine hK.out _ _ ⟨HS.out.get 1 rfl, bc_ (HS.out.get 2 rfl) 0⟩ (fun hHeld => ?_)
            clear hK K_
            refine norm_ (a' := ?_) ?_ ?_
            rotate_left
            · show Act.put _ (some 7) _ = _
              simp only [Act.put, List.setIfInBounds_toArray, List.set_cons_zero, List.set_cons_succ, i64_w, i32_w]
              rfl
            rotate_left
            all_goals (first
              | (refine two_ (l := (bz 11 15)) (i := 4) (j := 8) (Ni := some 50) (Nj := some 7) (bz 11 31) (bz 11 271) rfl rfl rfl rfl (by kernel_rfl) (by decide) (by decide) (fun K_ hK => ?_) (fun K_ hK => ?_)
                 refine goes_ Try.func13 (by kernel_rfl) rfl #[.agg #[.slice Ap X.length cp, .int .i64 R], .int .i64 j0] (by rfl) rfl rfl (by (try simp only [List.map_toArray, List.map_cons, List.map_nil]); first | done | rfl) ?_
                 refine Calls.mono (lane_Drop.calls K Ap cp X R j0 l R 0 _ (HS.out.now 0 rfl) Hp.out HD.out) ?_
                 rintro e_ wb ⟨v_, rfl, hv_, hb⟩
                 refine ⟨_, rfl, ?_⟩
                 obtain ⟨Ay, cy, rfl, hly, hs_⟩ := HS.out.val hb hv_
                 have Hy := Lib.hid hly
                 have HN := Lib.hid hs_
                 clear HS hb hv_ hs_ hly
                 have HS := Lib.hid (show Sx w [(kx, #[.slice Ax X.length cx, .int .i64 R], 24), (kj, #[.int .i64 j0, .int .i64 j1, .slice A1 lj.length c1], 27), (kl, #[.slice A0 l.length c0, .int .i64 R], 24)] [(fun W_ => Kd.C k27 W_ Ap X.length X), (fun W_ => Kd.C k27 W_ Ay l.length l), (fun W_ => Kd.C k27 W_ Ax X.length X)] _ from HN.out.perm (.refl _) (.trans (.swap _ _ _) (.cons _ (.refl _))))
                 clear HN
                 refine hK.out _ _ ⟨HS.out.get 0 rfl, bc_ (HS.out.get 1 rfl) 0⟩ (fun hHeld => ?_)
                 clear hK K_
                 refine norm_ (a' := ?_) ?_ ?_
                 rotate_left
                 · show Act.put _ (some 50) _ = _
                   simp only [Act.put, List.setIfInBounds_toArray, List.set_cons_zero, List.set_cons_succ, i64_w, i32_w]
                   rfl
                 refine pq_ (i := 5) (N := some 45) (bz 11 63) ?_
                 refine pq_ (i := 6) (N := some 51) (bz 11 127) ?_
                 refine pq_ (i := 7) (N := some 52) (bz 11 255) ?_
                 rotate_left
                 refine boxed_step_ (by rfl) rfl (cs := #[.slice none 0 0, .int .i64 0]) (t := 24) (by first | (go_simp; done) | (go_simp; rfl)) ?_
                 intro ky hE_ wb hbox hb
                 have HN := Lib.hid (HS.out.box hE_ hbox hb)
                 clear HS hE_ hbox hb
                 have HS := Lib.hid HN.out
                 clear HN
                 refine hK.out _ _ ⟨HS.out.get 1 rfl, bc_ (HS.out.get 2 rfl) 0⟩ (fun hHeld => ?_)
                 clear hK K_
                 refine norm_ (a' := ?_) ?_ ?_
                 rotate_left
                 · show Act.put _ (some 7) _ = _
                   simp only [Act.put, List.setIfInBounds_toArray, List.set_cons_zero, List.set_cons_succ, i64_w, i32_w]
                   rfl
                 rotate_left
                 )
              | (refine one_ (l := (bz 11 269)) (i := 1) (N := some 47) (bz 11 271) rfl rfl (by kernel_rfl) (by decide) (fun K_ hK => ?_)
                 refine goes_ Try.func11 (by kernel_rfl) rfl #[.agg #[.slice Ax X.length cx, .int .i64 R]] (by rfl) rfl rfl (by (try simp only [List.map_toArray, List.map_cons, List.map_nil]); first | done | rfl) ?_
                 refine Calls.mono (trefoillaw18_Own.calls K Ax cx X R X R _ (HS.out.now 0 rfl) Hx.out HOX.out) ?_
                 rintro e_ wb ⟨v_, rfl, hv_, hb⟩
                 refine ⟨_, rfl, ?_⟩
                 obtain ⟨Ap, cp, rfl, hlp, hs_⟩ := HS.out.val hb (own_val hv_)
                 have Hp := Lib.hid hlp
                 have HN := Lib.hid hs_
                 clear HS hb hv_ hs_ hlp
                 have HS := Lib.hid HN.out
                 clear HN
                 refine hK.out _ _ ⟨HS.out.get 1 rfl, bc_ (HS.out.get 2 rfl) 0⟩ (fun hHeld => ?_)
                 clear hK K_
                 refine norm_ (a' := ?_) ?_ ?_
                 rotate_left
                 · show Act.put _ (some 47) _ = _
                   simp only [Act.put, List.setIfInBounds_toArray, List.set_cons_zero, List.set_cons_succ, i64_w, i32_w]
                   rfl
                 )
              )
            all_goals (first
              | (refine one_ (l := (bz 11 255)) (i := 8) (N := some 7) (bz 11 511) rfl rfl (by kernel_rfl) (by decide) (fun K_ hK => ?_)
                 refine boxed_step_ (by rfl) rfl (cs := #[.slice none 0 0, .int .i64 0]) (t := 24) (by first | (go_simp; done) | (go_simp; rfl)) ?_
                 intro ky hE_ wb hbox hb
                 have HN := Lib.hid (HS.out.box hE_ hbox hb)
                 clear HS hE_ hbox hb
                 have HS := Lib.hid HN.out
                 clear HN
                 refine hK.out _ _ ⟨HS.out.get 1 rfl, bc_ (HS.out.get 2 rfl) 0⟩ (fun hHeld => ?_)
                 clear hK K_
                 refine norm_ (a' := ?_) ?_ ?_
                 rotate_left
                 · show Act.put _ (some 7) _ = _
                   simp only [Act.put, List.setIfInBounds_toArray, List.set_cons_zero, List.set_cons_succ, i64_w, i32_w]
                   rfl
                 )
              | (refine one_ (l := (bz 11 271)) (i := 4) (N := some 50) (bz 11 287) rfl rfl (by kernel_rfl) (by decide) (fun K_ hK => ?_)
                 refine goes_ Try.func13 (by kernel_rfl) rfl #[.agg #[.slice Ap X.length cp, .int .i64 R], .int .i64 j0] (by rfl) rfl rfl (by (try simp only [List.map_toArray, List.map_cons, List.map_nil]); first | done | rfl) ?_
                 refine Calls.mono (lane_Drop.calls K Ap cp X R j0 l R 0 _ (HS.out.now 0 rfl) Hp.out HD.out) ?_
                 rintro e_ wb ⟨v_, rfl, hv_, hb⟩
                 refine ⟨_, rfl, ?_⟩
                 obtain ⟨Ay, cy, rfl, hly, hs_⟩ := HS.out.val hb hv_
                 have Hy := Lib.hid hly
                 have HN := Lib.hid hs_
                 clear HS hb hv_ hs_ hly
                 have HS := Lib.hid (show Sx w [(ky, #[.slice none 0 0, .int .i64 0], 24), (kx, #[.slice Ax X.length cx, .int .i64 R], 24), (kj, #[.int .i64 j0, .int .i64 j1, .slice A1 lj.length c1], 27), (kl, #[.slice A0 l.length c0, .int .i64 R], 24)] [(fun W_ => Kd.C k27 W_ Ap X.length X), (fun W_ => Kd.C k27 W_ Ay l.length l), (fun W_ => Kd.C k27 W_ Ax X.length X)] _ from HN.out.perm (.refl _) (.trans (.swap _ _ _) (.cons _ (.refl _))))
                 clear HN
                 refine hK.out _ _ ⟨HS.out.get 1 rfl, bc_ (HS.out.get 2 rfl) 0⟩ (fun hHeld => ?_)
                 clear hK K_
                 refine norm_ (a' := ?_) ?_ ?_
                 rotate_left
                 · show Act.put _ (some 50) _ = _
                   simp only [Act.put, List.setIfInBounds_toArray, List.set_cons_zero, List.set_cons_succ, i64_w, i32_w]
                   rfl
                 refine pq_ (i := 5) (N := some 45) (bz 11 319) ?_
                 refine pq_ (i := 6) (N := some 51) (bz 11 383) ?_
                 refine pq_ (i := 7) (N := some 52) (bz 11 511) ?_
                 )
              )
            all_goals (
              refine one_ (l := (bz 11 511)) (i := 9) (N := none) (bz 11 1023) rfl rfl (by kernel_rfl) (by decide) (fun K_ hK => ?_)
              refine skip_ (by rfl) rfl (run_store_row_ rfl ky rfl #[.slice Ay l.length cy, .int .i64 R] #[.slice none 0 0, .int .i64 0] 24 (HS.out.get 0 rfl) rfl (by kernel_rfl) rfl rfl) ?_
              have HN := Lib.hid (show Sx w [(ky, #[.slice Ay l.length cy, .int .i64 R], 24), (kx, #[.slice Ax X.length cx, .int .i64 R], 24), (kj, #[.int .i64 j0, .int .i64 j1, .slice A1 lj.length c1], 27), (kl, #[.slice A0 l.length c0, .int .i64 R], 24)] [(fun W_ => Kd.C k27 W_ Ap X.length X), (fun W_ => Kd.C k27 W_ Ay l.length l), (fun W_ => Kd.C k27 W_ Ax X.length X)] _ from HS.out.row 0 rfl #[.slice Ay l.length cy, .int .i64 R])
              clear HS
              have HS := Lib.hid HN.out
              clear HN
              refine hK.out _ _ ⟨HS.out.get 1 rfl, bc_ (HS.out.get 2 rfl) 0⟩ (fun hHeld => ?_)
              clear hK K_
              refine pq_ (i := 10) (N := some 8) (bz 11 2047) ?_
              )
            all_goals (refine done_ (by kernel_rfl) ?_)
            all_goals (
              try go_wp2
              go_meet
              exact ⟨ky, Ay, cy, rfl, rfl, ⟨Hy.out⟩, ⟨HS.out.lose⟩⟩
              )
          case rest =>
            clear HS
            obtain ⟨ky, Ay, cy, rfl, rfl, Hy0, HS0⟩ := hcut
            have HS := Lib.hid HS0.out
            have Hy := Lib.hid Hy0.out
            clear HS0 Hy0
            go_wp2
            go_cut [9, 10] (fun v9 v10 wc => v10 = .int .i64 181 ∧ Aside0 (Sx w [(ky, #[.slice Ay l.length cy, .int .i64 R], 24), (kx, #[.slice Ax X.length cx, .int .i64 R], 24), (kj, #[.int .i64 j0, .int .i64 j1, .slice A1 lj.length c1], 27), (kl, #[.slice A0 l.length c0, .int .i64 R], 24)] [(fun W_ => Kd.C k27 W_ Ay l.length l), (fun W_ => Kd.C k27 W_ Ax X.length X)] wc))
            case first =>
              have HN := Lib.hid (HS.out.below (below_drew1 (Below.refl _ _)))
              clear HS
              have HS := Lib.hid HN.out
              clear HN
              refine start_ (n := 10) (S := fun W_ => W_.heap[kx]? = some (.cells #[.slice Ax X.length cx, .int .i64 R] 24 (0, 0)) ∧ W_.heap[kj]? = some (.cells #[.int .i64 j0, .int .i64 j1, .slice A1 lj.length c1] 27 (0, 0))) (ds := []) (bz 10 0) (by kernel_rfl) rfl (by kernel_rfl) ⟨HS.out.get 1 rfl, HS.out.get 2 rfl⟩ (fun hHeld => ?_)
              refine tb_ (i := 0) (N := some 54) (bz 10 1) hHeld (v := .agg #[.slice Ax X.length cx, .int .i64 R]) (fun w' hs => run_load_row_ rfl kx rfl 24 _ _ hs.1 Try.underlying24 rfl (by kernel_rfl)) ?_
              refine tb_ (i := 2) (N := some 56) (bz 10 5) hHeld (v := .agg #[.int .i64 j0, .int .i64 j1, .slice A1 lj.length c1]) (fun w' hs => run_load_row_ rfl kj rfl 27 _ _ hs.2 Try.underlying27 rfl (by kernel_rfl)) ?_
              refine two_ (l := (bz 10 5)) (i := 1) (j := 7) (Ni := some 55) (Nj := some 9) (bz 10 7) (bz 10 133) rfl rfl rfl rfl (by kernel_rfl) (by decide) (by decide) (fun K_ hK => ?_) (fun K_ hK => ?_)
              refine goes_ Try.func11 (by kernel_rfl) rfl #[.agg #[.slice Ax X.length cx, .int .i64 R]] (by rfl) rfl rfl (by (try simp only [List.map_toArray, List.map_cons, List.map_nil]); first | done | rfl) ?_
              refine Calls.mono (trefoillaw18_Own.calls K Ax cx X R X R _ (HS.out.now 1 rfl) Hx.out HOX.out) ?_
              rintro e_ wb ⟨v_, rfl, hv_, hb⟩
              refine ⟨_, rfl, ?_⟩
              obtain ⟨Aq, cq, rfl, hlq, hs_⟩ := HS.out.val hb (own_val hv_)
              have Hq := Lib.hid hlq
              have HN := Lib.hid hs_
              clear HS hb hv_ hs_ hlq
              have HS := Lib.hid HN.out
              clear HN
              refine hK.out _ _ ⟨HS.out.get 1 rfl, HS.out.get 2 rfl⟩ (fun hHeld => ?_)
              clear hK K_
              refine norm_ (a' := ?_) ?_ ?_
              rotate_left
              · show Act.put _ (some 55) _ = _
                simp only [Act.put, List.setIfInBounds_toArray, List.set_cons_zero, List.set_cons_succ, i64_w, i32_w]
                rfl
              rotate_left
              refine boxed_step_ (by rfl) rfl (cs := #[.slice none 0 0, .int .i64 0]) (t := 24) (by first | (go_simp; done) | (go_simp; rfl)) ?_
              intro kz hE_ wb hbox hb
              have HN := Lib.hid (HS.out.box hE_ hbox hb)
              clear HS hE_ hbox hb
              have HS := Lib.hid HN.out
              clear HN
              refine hK.out _ _ ⟨HS.out.get 2 rfl, HS.out.get 3 rfl⟩ (fun hHeld => ?_)
              clear hK K_
              refine norm_ (a' := ?_) ?_ ?_
              rotate_left
              · show Act.put _ (some 9) _ = _
                simp only [Act.put, List.setIfInBounds_toArray, List.set_cons_zero, List.set_cons_succ, i64_w, i32_w]
                rfl
              rotate_left
              all_goals (first
                | (refine two_ (l := (bz 10 7)) (i := 3) (j := 7) (Ni := some 57) (Nj := some 9) (bz 10 15) (bz 10 135) rfl rfl rfl rfl (by kernel_rfl) (by decide) (by decide) (fun K_ hK => ?_) (fun K_ hK => ?_)
                   refine goes_ Try.func10 (by kernel_rfl) rfl #[.agg #[.slice Aq X.length cq, .int .i64 R], .agg #[.int .i64 j0, .int .i64 j1, .slice A1 lj.length c1]] (by rfl) rfl rfl (by (try simp only [List.map_toArray, List.map_cons, List.map_nil]); first | done | rfl) ?_
                   refine Calls.mono (lane_Add.calls K Aq cq X R j0 j1 A1 c1 lj [] 0 181 _ (HS.out.now 0 rfl) Hq.out (Kd.C_below HR1.out HS.out.B) Hc1.out HA2.out) ?_
                   rintro e_ wb ⟨v_, rfl, hv_, hb⟩
                   refine ⟨_, rfl, ?_⟩
                   obtain ⟨Az, cz, rfl, hlz, hs_⟩ := HS.out.val hb hv_
                   have Hz := Lib.hid hlz
                   have HN := Lib.hid hs_
                   clear HS hb hv_ hs_ hlz
                   have HS := Lib.hid (show Sx w [(ky, #[.slice Ay l.length cy, .int .i64 R], 24), (kx, #[.slice Ax X.length cx, .int .i64 R], 24), (kj, #[.int .i64 j0, .int .i64 j1, .slice A1 lj.length c1], 27), (kl, #[.slice A0 l.length c0, .int .i64 R], 24)] [(fun W_ => Kd.C k27 W_ Aq X.length X), (fun W_ => Kd.C k27 W_ Az ([] : List J3).length ([] : List J3)), (fun W_ => Kd.C k27 W_ Ay l.length l), (fun W_ => Kd.C k27 W_ Ax X.length X)] _ from HN.out.perm (.refl _) (.trans (.swap _ _ _) (.cons _ (.refl _))))
                   clear HN
                   refine hK.out _ _ ⟨HS.out.get 1 rfl, HS.out.get 2 rfl⟩ (fun hHeld => ?_)
                   clear hK K_
                   refine norm_ (a' := ?_) ?_ ?_
                   rotate_left
                   · show Act.put _ (some 57) _ = _
                     simp only [Act.put, List.setIfInBounds_toArray, List.set_cons_zero, List.set_cons_succ, i64_w, i32_w]
                     rfl
                   refine pq_ (i := 4) (N := some 53) (bz 10 31) ?_
                   refine pq_ (i := 5) (N := some 58) (bz 10 63) ?_
                   refine pq_ (i := 6) (N := some 59) (bz 10 127) ?_
                   rotate_left
                   refine boxed_step_ (by rfl) rfl (cs := #[.slice none 0 0, .int .i64 0]) (t := 24) (by first | (go_simp; done) | (go_simp; rfl)) ?_
                   intro kz hE_ wb hbox hb
                   have HN := Lib.hid (HS.out.box hE_ hbox hb)
                   clear HS hE_ hbox hb
                   have HS := Lib.hid HN.out
                   clear HN
                   refine hK.out _ _ ⟨HS.out.get 2 rfl, HS.out.get 3 rfl⟩ (fun hHeld => ?_)
                   clear hK K_
                   refine norm_ (a' := ?_) ?_ ?_
                   rotate_left
                   · show Act.put _ (some 9) _ = _
                     simp only [Act.put, List.setIfInBounds_toArray, List.set_cons_zero, List.set_cons_succ, i64_w, i32_w]
                     rfl
                   rotate_left
                   )
                | (refine one_ (l := (bz 10 133)) (i := 1) (N := some 55) (bz 10 135) rfl rfl (by kernel_rfl) (by decide) (fun K_ hK => ?_)
                   refine goes_ Try.func11 (by kernel_rfl) rfl #[.agg #[.slice Ax X.length cx, .int .i64 R]] (by rfl) rfl rfl (by (try simp only [List.map_toArray, List.map_cons, List.map_nil]); first | done | rfl) ?_
                   refine Calls.mono (trefoillaw18_Own.calls K Ax cx X R X R _ (HS.out.now 1 rfl) Hx.out HOX.out) ?_
                   rintro e_ wb ⟨v_, rfl, hv_, hb⟩
                   refine ⟨_, rfl, ?_⟩
                   obtain ⟨Aq, cq, rfl, hlq, hs_⟩ := HS.out.val hb (own_val hv_)
                   have Hq := Lib.hid hlq
                   have HN := Lib.hid hs_
                   clear HS hb hv_ hs_ hlq
                   have HS := Lib.hid HN.out
                   clear HN
                   refine hK.out _ _ ⟨HS.out.get 2 rfl, HS.out.get 3 rfl⟩ (fun hHeld => ?_)
                   clear hK K_
                   refine norm_ (a' := ?_) ?_ ?_
                   rotate_left
                   · show Act.put _ (some 55) _ = _
                     simp only [Act.put, List.setIfInBounds_toArray, List.set_cons_zero, List.set_cons_succ, i64_w, i32_w]
                     rfl
                   )
                )
              all_goals (first
                | (refine one_ (l := (bz 10 127)) (i := 7) (N := some 9) (bz 10 255) rfl rfl (by kernel_rfl) (by decide) (fun K_ hK => ?_)
                   refine boxed_step_ (by rfl) rfl (cs := #[.slice none 0 0, .int .i64 0]) (t := 24) (by first | (go_simp; done) | (go_simp; rfl)) ?_
                   intro kz hE_ wb hbox hb
                   have HN := Lib.hid (HS.out.box hE_ hbox hb)
                   clear HS hE_ hbox hb
                   have HS := Lib.hid HN.out
                   clear HN
                   refine hK.out _ _ ⟨HS.out.get 2 rfl, HS.out.get 3 rfl⟩ (fun hHeld => ?_)
                   clear hK K_
                   refine norm_ (a' := ?_) ?_ ?_
                   rotate_left
                   · show Act.put _ (some 9) _ = _
                     simp only [Act.put, List.setIfInBounds_toArray, List.set_cons_zero, List.set_cons_succ, i64_w, i32_w]
                     rfl
                   )
                | (refine one_ (l := (bz 10 135)) (i := 3) (N := some 57) (bz 10 143) rfl rfl (by kernel_rfl) (by decide) (fun K_ hK => ?_)
                   refine goes_ Try.func10 (by kernel_rfl) rfl #[.agg #[.slice Aq X.length cq, .int .i64 R], .agg #[.int .i64 j0, .int .i64 j1, .slice A1 lj.length c1]] (by rfl) rfl rfl (by (try simp only [List.map_toArray, List.map_cons, List.map_nil]); first | done | rfl) ?_
                   refine Calls.mono (lane_Add.calls K Aq cq X R j0 j1 A1 c1 lj [] 0 181 _ (HS.out.now 0 rfl) Hq.out (Kd.C_below HR1.out HS.out.B) Hc1.out HA2.out) ?_
                   rintro e_ wb ⟨v_, rfl, hv_, hb⟩
                   refine ⟨_, rfl, ?_⟩
                   obtain ⟨Az, cz, rfl, hlz, hs_⟩ := HS.out.val hb hv_
                   have Hz := Lib.hid hlz
                   have HN := Lib.hid hs_
                   clear HS hb hv_ hs_ hlz
                   have HS := Lib.hid (show Sx w [(kz, #[.slice none 0 0, .int .i64 0], 24), (ky, #[.slice Ay l.length cy, .int .i64 R], 24), (kx, #[.slice Ax X.length cx, .int .i64 R], 24), (kj, #[.int .i64 j0, .int .i64 j1, .slice A1 lj.length c1], 27), (kl, #[.slice A0 l.length c0, .int .i64 R], 24)] [(fun W_ => Kd.C k27 W_ Aq X.length X), (fun W_ => Kd.C k27 W_ Az ([] : List J3).length ([] : List J3)), (fun W_ => Kd.C k27 W_ Ay l.length l), (fun W_ => Kd.C k27 W_ Ax X.length X)] _ from HN.out.perm (.refl _) (.trans (.swap _ _ _) (.cons _ (.refl _))))
                   clear HN
                   refine hK.out _ _ ⟨HS.out.get 2 rfl, HS.out.get 3 rfl⟩ (fun hHeld => ?_)
                   clear hK K_
                   refine norm_ (a' := ?_) ?_ ?_
                   rotate_left
                   · show Act.put _ (some 57) _ = _
                     simp only [Act.put, List.setIfInBounds_toArray, List.set_cons_zero, List.set_cons_succ, i64_w, i32_w]
                     rfl
                   refine pq_ (i := 4) (N := some 53) (bz 10 159) ?_
                   refine pq_ (i := 5) (N := some 58) (bz 10 191) ?_
                   refine pq_ (i := 6) (N := some 59) (bz 10 255) ?_
                   )
                )
              all_goals (
                refine one_ (l := (bz 10 255)) (i := 8) (N := none) (bz 10 511) rfl rfl (by kernel_rfl) (by decide) (fun K_ hK => ?_)
                refine skip_ (by rfl) rfl (run_store_row_ rfl kz rfl #[.slice Az ([] : List J3).length cz, .int .i64 0] #[.slice none 0 0, .int .i64 0] 24 (HS.out.get 0 rfl) rfl (by kernel_rfl) rfl rfl) ?_
                have HN := Lib.hid (show Sx w [(kz, #[.slice Az ([] : List J3).length cz, .int .i64 0], 24), (ky, #[.slice Ay l.length cy, .int .i64 R], 24), (kx, #[.slice Ax X.length cx, .int .i64 R], 24), (kj, #[.int .i64 j0, .int .i64 j1, .slice A1 lj.length c1], 27), (kl, #[.slice A0 l.length c0, .int .i64 R], 24)] [(fun W_ => Kd.C k27 W_ Aq X.length X), (fun W_ => Kd.C k27 W_ Az ([] : List J3).length ([] : List J3)), (fun W_ => Kd.C k27 W_ Ay l.length l), (fun W_ => Kd.C k27 W_ Ax X.length X)] _ from HS.out.row 0 rfl #[.slice Az ([] : List J3).length cz, .int .i64 0])
                clear HS
                have HS := Lib.hid HN.out
                clear HN
                refine hK.out _ _ ⟨HS.out.get 2 rfl, HS.out.get 3 rfl⟩ (fun hHeld => ?_)
                clear hK K_
                refine pq_ (i := 9) (N := some 10) (bz 10 1023) ?_
                )
              all_goals (refine done_ (by kernel_rfl) ?_)
              all_goals (
                try go_wp2
                go_meet
                exact ⟨rfl, ⟨HS.out.lose.lose.drop⟩⟩
                )
            case rest =>
              clear HS
              obtain ⟨rfl, HS0⟩ := hcut
              have HS := Lib.hid HS0.out
              clear HS0
              have hlb : ((X.length : Int) == (l.length : Int) + 1) = true := by have := Hlen.out; simp; omega
              have hlw : IntKind.i64.wrap ((l.length : Int) + 1) = (l.length : Int) + 1 := by rw [i64_w]; exact lw64 (by omega) (by omega)
              go_wp2_with (first | ((with_reducible refine gate_dst (N := 63) rfl ?_); refine gate_guard (by rfl) ?_; dsimp only; refine wpList_load_row rfl 24 (.tmp 7) rfl ky rfl 24 #[.slice Ay l.length cy, .int .i64 R] (0, 0) _ (HS.out.get 0 rfl) Try.underlying24 rfl (by kernel_rfl) ?_) | ((with_reducible refine gate_dst (N := 63) rfl ?_); refine wpList_load_row rfl 24 (.tmp 7) rfl ky rfl 24 #[.slice Ay l.length cy, .int .i64 R] (0, 0) _ (HS.out.get 0 rfl) Try.underlying24 rfl (by kernel_rfl) ?_) | ((with_reducible refine gate_dst (N := 64) rfl ?_); refine gate_guard (by rfl) ?_; dsimp only; refine wpList_load_row rfl 24 (.tmp 2) rfl kl rfl 24 #[.slice A0 l.length c0, .int .i64 R] (0, 0) _ (HS.out.get 3 rfl) Try.underlying24 rfl (by kernel_rfl) ?_) | ((with_reducible refine gate_dst (N := 64) rfl ?_); refine wpList_load_row rfl 24 (.tmp 2) rfl kl rfl 24 #[.slice A0 l.length c0, .int .i64 R] (0, 0) _ (HS.out.get 3 rfl) Try.underlying24 rfl (by kernel_rfl) ?_) | (go_at_call 19; refine Calls.mono (rsame_calls Ay cy l R A0 c0 l R _ (HS.out.now 0 rfl) (Kd.C_below HR.out HS.out.B) hl2.out) ?_; rintro e_ w31 ⟨rfl, hb⟩; have HN := Lib.hid (show Sx w [(ky, #[.slice Ay l.length cy, .int .i64 R], 24), (kx, #[.slice Ax X.length cx, .int .i64 R], 24), (kj, #[.int .i64 j0, .int .i64 j1, .slice A1 lj.length c1], 27), (kl, #[.slice A0 l.length c0, .int .i64 R], 24)] [(fun W_ => Kd.C k27 W_ Ay l.length l), (fun W_ => Kd.C k27 W_ Ax X.length X)] w31 from HS.out.below hb); clear HS hb; have HS := Lib.hid HN.out; clear HN; rw [sameL_yes rfl rfl]) | ((with_reducible refine gate_dst (N := 72) rfl ?_); refine gate_guard (by rfl) ?_; dsimp only; refine wpList_load_row rfl 24 (.tmp 5) rfl kx rfl 24 #[.slice Ax X.length cx, .int .i64 R] (0, 0) _ (HS.out.get 1 rfl) Try.underlying24 rfl (by kernel_rfl) ?_) | ((with_reducible refine gate_dst (N := 72) rfl ?_); refine wpList_load_row rfl 24 (.tmp 5) rfl kx rfl 24 #[.slice Ax X.length cx, .int .i64 R] (0, 0) _ (HS.out.get 1 rfl) Try.underlying24 rfl (by kernel_rfl) ?_) | (go_at_call 11; refine Calls.mono (trefoillaw18_Own.calls K Ax cx X R X R _ (HS.out.now 1 rfl) Hx.out HOX.out) ?_; rintro e_ w32 ⟨v_, rfl, hs_, hb⟩; obtain ⟨Ao, co, rfl, hco_, hlo_⟩ := Kd.N_reads (Kd.S_N hs_); have HLo := Lib.hid hlo_; have HCo := Lib.hid hco_; clear hs_ hlo_ hco_; have HN := Lib.hid (show Sx w [(ky, #[.slice Ay l.length cy, .int .i64 R], 24), (kx, #[.slice Ax X.length cx, .int .i64 R], 24), (kj, #[.int .i64 j0, .int .i64 j1, .slice A1 lj.length c1], 27), (kl, #[.slice A0 l.length c0, .int .i64 R], 24)] [(fun W_ => Kd.C k27 W_ Ay l.length l), (fun W_ => Kd.C k27 W_ Ax X.length X)] w32 from HS.out.below hb); clear HS hb; have HS := Lib.hid HN.out; clear HN) | (go_at_call 21; refine Calls.mono (lane_Check.calls K Ao co X R 0 _ HLo.out HCo.out HK.out) ?_; rintro e_ w33 ⟨rfl, hb⟩; have HN := Lib.hid (show Sx w [(ky, #[.slice Ay l.length cy, .int .i64 R], 24), (kx, #[.slice Ax X.length cx, .int .i64 R], 24), (kj, #[.int .i64 j0, .int .i64 j1, .slice A1 lj.length c1], 27), (kl, #[.slice A0 l.length c0, .int .i64 R], 24)] [(fun W_ => Kd.C k27 W_ Ay l.length l), (fun W_ => Kd.C k27 W_ Ax X.length X)] w33 from HS.out.below hb); clear HS hb; have HS := Lib.hid HN.out; clear HN; have x0 : w33.cell? ⟨kx, 0, none⟩ = some (.slice Ax X.length cx) := (blk_cell (HS.out.get 1 rfl) 0).trans rfl; have l0 : w33.cell? ⟨kl, 0, none⟩ = some (.slice A0 l.length c0) := (blk_cell (HS.out.get 3 rfl) 0).trans rfl))
              go_ret
              exact ⟨rfl, HS.out.B⟩
end Go.Proofs.Yteodhffgnkdcfaa.Q
