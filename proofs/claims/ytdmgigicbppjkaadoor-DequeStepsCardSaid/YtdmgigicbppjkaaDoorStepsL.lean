/- The statement's own function, at a deque of at most 130 numbers. -/
import Derived.Test.YtdmgigicbppjkaaDoorStepsK
import Derived.Test.YtdmgigicbppjkaaDoorQx7
import Derived.Test.YtdmgigicbppjkaaDoorQx4
import Derived.Test.YtdmgigicbppjkaaDoorQy9
set_option linter.unusedVariables false
set_option linter.unusedSimpArgs false
namespace Go.Proofs.YtdmgigicbppjkaaDoor.Q
open Go.RowKit Go.Proofs.YtdmgigicbppjkaaDoorW.PrintWords Go.Proofs.YtdmgigicbppjkaaDoorW.PrintLast Go.Proofs.YtdmgigicbppjkaaDoorW.PrintMore
attribute [local go_sem] max2_int min2_int max_two min_two max_three min_three max_four min_four   -- for this text's walks alone
set_option maxHeartbeats 8000000 in
set_option maxRecDepth 100000 in
theorem steps_walk (A0_0 : Option Addr) (c0_0 : Nat) (l0_0 : List Int) (a0_1 a0_2 : Int) (a1_0 : Bool) (a1_1 a1_2 a1_3 a1_4 a1_5 : Int) (lx : List Int) (x1 x2 : Int) (x3 : Bool) (x4 x5 x6 x7 x8 x9 : Int) (lp : List Int) (p1 p2 : Int) (p3 : Bool) (p4 p5 p6 p7 p8 p9 : Int) (hx_ : deque_Step.f l0_0 a0_1 a0_2 a1_0 a1_1 a1_2 a1_3 a1_4 a1_5 = some (lx, x1, x2, x3, x4, x5, x6, x7, x8, x9)) (hy_ : ref_step.r l0_0 a0_1 a0_2 a1_0 a1_1 a1_2 a1_3 a1_4 a1_5 = some (x1, x2, x3, x4, x5, x6, x7, x8, x9)) (hp_ : deque_Take.f 50 l0_0 a0_1 a0_2 a1_0 = some (lp, p1, p2, p3, p4, p5, p6, p7, p8, p9)) (hq_ : ref_take.r l0_0 50 a0_1 a0_2 a1_0 = some (p1, p2, p3, p4, p5, p6, p7, p8, p9)) (hw_ : trefoillaw12_Own.f l0_0 a0_1 a0_2 = some (l0_0, a0_1, a0_2)) (hl_ : l0_0.length ≤ 130) (hlx_ : lx = (if x9 = 0 then l0_0 else [])) (hlp_ : lp = (if p9 = 0 then l0_0 else [])) (hsx_ : trefoilref12_Same.f 140 lx x1 x2 lx x1 x2 = some true) (hsp_ : trefoilref12_Same.f 140 lp p1 p2 lp p1 p2 = some true) (w : World) (hr0_0 : Kd.C (Kd.int .i64) w A0_0 l0_0.length l0_0) (hc0_0 : l0_0.length ≤ c0_0) (hTab : TabOK w) :
    Calls Tryd.prog 3 #[.agg #[.slice A0_0 l0_0.length c0_0, .int .i64 a0_1, .int .i64 a0_2], .agg #[.bool a1_0, .int .i64 a1_1, .int .i64 a1_2, .int .i64 a1_3, .int .i64 a1_4, .int .i64 a1_5]] w fun e w' => e = .returned (.bool true) ∧ Below w.heap.size w w' := by
  have HX := Lib.hid hx_
  have HY := Lib.hid hy_
  have HP := Lib.hid hp_
  have HQ := Lib.hid hq_
  have HW := Lib.hid hw_
  have HL := Lib.hid hl_
  have Hlx := Lib.hid hlx_
  have Hlp := Lib.hid hlp_
  have HSx := Lib.hid hsx_
  have HSp := Lib.hid hsp_
  have HR := Lib.hid hr0_0
  have Hc := Lib.hid hc0_0
  have HTab := Lib.hid hTab
  clear hr0_0 hc0_0 hTab hx_ hy_ hp_ hq_ hw_ hl_ hlx_ hlp_ hsx_ hsp_
  have HS := Lib.hid (St.start w)
  have h130 : decide ((l0_0.length : Int) > 130) = false := decide_eq_false (by have := HL.out; omega)
  go_enter Tryd.func3, Tryd.ntmps3
  go_wp2_with (first | ((with_reducible refine gate_dst (N := 2) rfl ?_); refine box_event ?hg (N := 2) ?hd (cs := #[.slice A0_0 l0_0.length c0_0, .int .i64 a0_1, .int .i64 a0_2]) (t := 24) ?hr ?_; (case hd => rfl); (case hg => rfl); (case hr => first | (go_simp; done) | (go_simp; rfl)); intro kq hE_ W_ hbox hb; have HN := Lib.hid (show St w [(kq, #[.slice A0_0 l0_0.length c0_0, .int .i64 a0_1, .int .i64 a0_2], 24)] [] _ from HS.out.box hE_ hbox hb); clear HS hE_ hbox hb; have HS := Lib.hid HN.out; clear HN) | ((with_reducible refine gate_dst (N := 3) rfl ?_); refine box_event ?hg (N := 3) ?hd (cs := #[.bool a1_0, .int .i64 a1_1, .int .i64 a1_2, .int .i64 a1_3, .int .i64 a1_4, .int .i64 a1_5]) (t := 27) ?hr ?_; (case hd => rfl); (case hg => rfl); (case hr => first | (go_simp; done) | (go_simp; rfl)); intro kt hE_ W_ hbox hb; have HN := Lib.hid (show St w [(kt, #[.bool a1_0, .int .i64 a1_1, .int .i64 a1_2, .int .i64 a1_3, .int .i64 a1_4, .int .i64 a1_5], 27), (kq, #[.slice A0_0 l0_0.length c0_0, .int .i64 a0_1, .int .i64 a0_2], 24)] [] _ from HS.out.box hE_ hbox hb); clear HS hE_ hbox hb; have HS := Lib.hid HN.out; clear HN) | (go_at_call 8; refine Calls.mono (trefoillaw12_awake.calls 30 true _ rfl (TabOK.below HTab.out HS.out.B)) ?_; rintro _ W_ ⟨rfl, hb⟩; have HN := Lib.hid (show St w [(kt, #[.bool a1_0, .int .i64 a1_1, .int .i64 a1_2, .int .i64 a1_3, .int .i64 a1_4, .int .i64 a1_5], 27), (kq, #[.slice A0_0 l0_0.length c0_0, .int .i64 a0_1, .int .i64 a0_2], 24)] [] _ from HS.out.below hb); clear HS hb; have HS := Lib.hid HN.out; clear HN; have fkq0 : W_.cell? ⟨kq, 0, none⟩ = some (.slice A0_0 l0_0.length c0_0) := (blk_cell (HS.out.get 1 rfl) 0).trans rfl))
  clear fkq0
  go_cut [5, 6, 7] (fun v5 v6 v7 wc => ∃ (kx ku : Nat) (Ax Ao : Option Addr) (cx co : Nat), v5 = .pointer (some ⟨kx, 0, none⟩) ∧ v6 = .pointer (some ⟨ku, 0, none⟩) ∧ v7 = .int .i64 x9 ∧ Aside0 (St w [(ku, #[.bool x3, .int .i64 x4, .int .i64 x5, .int .i64 x6, .int .i64 x7, .int .i64 x8], 27), (kx, #[(.slice Ax lx.length cx), .int .i64 x1, .int .i64 x2], 24), (kt, #[.bool a1_0, .int .i64 a1_1, .int .i64 a1_2, .int .i64 a1_3, .int .i64 a1_4, .int .i64 a1_5], 27), (kq, #[.slice A0_0 l0_0.length c0_0, .int .i64 a0_1, .int .i64 a0_2], 24)] [((.slice Ax lx.length cx), lx), ((.slice Ao l0_0.length co), l0_0)] wc))
  case first =>
    have HN := Lib.hid (HS.out.below (below_drew1 (Below.refl _ _)))
    clear HS
    have HS := Lib.hid HN.out
    clear HN
    refine start_ (n := 13) (S := fun W_ => W_.heap[kq]? = some (.cells #[.slice A0_0 l0_0.length c0_0, .int .i64 a0_1, .int .i64 a0_2] 24 (0, 0)) ∧ W_.heap[kt]? = some (.cells #[.bool a1_0, .int .i64 a1_1, .int .i64 a1_2, .int .i64 a1_3, .int .i64 a1_4, .int .i64 a1_5] 27 (0, 0))) (ds := []) #[false, false, false, false, false, false, false, false, false, false, false, false, false] (by kernel_rfl) rfl rfl ⟨HS.out.get 1 rfl, HS.out.get 0 rfl⟩ (fun hHeld => ?_)
    refine take_ (i := 0) (N := some 27) (v := .agg #[.slice A0_0 l0_0.length c0_0, .int .i64 a0_1, .int .i64 a0_2]) (a' := ?_) #[true, false, false, false, false, false, false, false, false, false, false, false, false] rfl rfl (by kernel_rfl) (fun _ _ _ h => h) (Or.inl ⟨by rfl, fun w' hs => run_load_row_ rfl kq rfl 24 _ _ hs.1 Tryd.underlying24 rfl (by kernel_rfl)⟩) hHeld ?_ ?_
    rotate_left
    · simp only [Act.put, List.setIfInBounds_toArray, List.set_cons_zero, List.set_cons_succ, i64_w, i32_w]
      rfl
    refine take_ (i := 2) (N := some 29) (v := .agg #[.bool a1_0, .int .i64 a1_1, .int .i64 a1_2, .int .i64 a1_3, .int .i64 a1_4, .int .i64 a1_5]) (a' := ?_) #[true, false, true, false, false, false, false, false, false, false, false, false, false] rfl rfl (by kernel_rfl) (fun _ _ _ h => h) (Or.inl ⟨by rfl, fun w' hs => run_load_row_ rfl kt rfl 27 _ _ hs.2 Tryd.underlying27 rfl (by kernel_rfl)⟩) hHeld ?_ ?_
    rotate_left
    · simp only [Act.put, List.setIfInBounds_toArray, List.set_cons_zero, List.set_cons_succ, i64_w, i32_w]
      rfl
    all_goals (first
      | (refine three_ (l := #[true, false, true, false, false, false, false, false, false, false, false, false, false]) (i := 1) (j := 8) (k := 9) (Ni := some 28) (Nj := some 5) (Nk := some 6) #[true, true, true, false, false, false, false, false, false, false, false, false, false] #[true, false, true, false, false, false, false, false, true, false, false, false, false] #[true, false, true, false, false, false, false, false, false, true, false, false, false] rfl rfl rfl rfl rfl rfl (by kernel_rfl) (by decide) (by decide) (by decide) (fun K hK => ?_) (fun K hK => ?_) (fun K hK => ?_)
         refine goes_ Tryd.func10 (by kernel_rfl) rfl #[.agg #[.slice A0_0 l0_0.length c0_0, .int .i64 a0_1, .int .i64 a0_2]] (by rfl) rfl rfl (by (try simp only [List.map_toArray, List.map_cons, List.map_nil]); first | done | rfl) ?_
         refine Calls.mono (trefoillaw12_Own.calls A0_0 c0_0 l0_0 a0_1 a0_2 l0_0 a0_1 a0_2 _ ?_ ?_ HW.out) ?_
         · exact Kd.C_below HR.out HS.out.B
         · exact Hc.out
         rintro e_ W_ ⟨v_, rfl, hR_, hb⟩
         refine ⟨_, rfl, ?_⟩
         obtain ⟨Ao, co, rfl⟩ := Kd.R_slice hR_
         have HN := Lib.hid (HS.out.ring hb hR_)
         clear HS hb hR_
         have HS := Lib.hid HN.out
         clear HN
         refine hK.out _ _ ⟨HS.out.get 1 rfl, HS.out.get 0 rfl⟩ (fun hHeld => ?_)
         clear hK K
         refine norm_ (a' := ?_) ?_ ?_
         rotate_left
         · show Act.put _ (some 28) _ = _
           simp only [Act.put, List.setIfInBounds_toArray, List.set_cons_zero, List.set_cons_succ, i64_w, i32_w]
           rfl
         rotate_left
         refine box_step (cs := #[.slice none 0 0, .int .i64 0, .int .i64 0]) (t := 24) (by rfl) rfl (by first | (go_simp; done) | (go_simp; rfl)) ?_
         intro kx hE_ W_ hbox hb
         have HN := Lib.hid (HS.out.box hE_ hbox hb)
         clear HS hE_ hbox hb
         have HS := Lib.hid HN.out
         clear HN
         refine hK.out _ _ ⟨HS.out.get 2 rfl, HS.out.get 1 rfl⟩ (fun hHeld => ?_)
         clear hK K
         refine norm_ (a' := ?_) ?_ ?_
         rotate_left
         · show Act.put _ (some 5) _ = _
           simp only [Act.put, List.setIfInBounds_toArray, List.set_cons_zero, List.set_cons_succ, i64_w, i32_w]
           rfl
         rotate_left
         refine box_step (cs := #[.bool false, .int .i64 0, .int .i64 0, .int .i64 0, .int .i64 0, .int .i64 0]) (t := 27) (by rfl) rfl (by first | (go_simp; done) | (go_simp; rfl)) ?_
         intro ku hE_ W_ hbox hb
         have HN := Lib.hid (HS.out.box hE_ hbox hb)
         clear HS hE_ hbox hb
         have HS := Lib.hid HN.out
         clear HN
         refine hK.out _ _ ⟨HS.out.get 2 rfl, HS.out.get 1 rfl⟩ (fun hHeld => ?_)
         clear hK K
         refine norm_ (a' := ?_) ?_ ?_
         rotate_left
         · show Act.put _ (some 6) _ = _
           simp only [Act.put, List.setIfInBounds_toArray, List.set_cons_zero, List.set_cons_succ, i64_w, i32_w]
           rfl
         rotate_left)
      )
    all_goals (first
      | (refine three_ (l := #[true, true, true, false, false, false, false, false, false, false, false, false, false]) (i := 3) (j := 8) (k := 9) (Ni := some 30) (Nj := some 5) (Nk := some 6) #[true, true, true, true, false, false, false, false, false, false, false, false, false] #[true, true, true, false, false, false, false, false, true, false, false, false, false] #[true, true, true, false, false, false, false, false, false, true, false, false, false] rfl rfl rfl rfl rfl rfl (by kernel_rfl) (by decide) (by decide) (by decide) (fun K hK => ?_) (fun K hK => ?_) (fun K hK => ?_)
         refine goes_ Tryd.func9 (by kernel_rfl) rfl #[.agg #[.slice Ao l0_0.length co, .int .i64 a0_1, .int .i64 a0_2], .agg #[.bool a1_0, .int .i64 a1_1, .int .i64 a1_2, .int .i64 a1_3, .int .i64 a1_4, .int .i64 a1_5]] (by rfl) rfl rfl (by (try simp only [List.map_toArray, List.map_cons, List.map_nil]); first | done | rfl) ?_
         refine Calls.mono (deque_Step.calls _ _ l0_0 a0_1 a0_2 a1_0 a1_1 a1_2 a1_3 a1_4 a1_5 lx x1 x2 x3 x4 x5 x6 x7 x8 x9 _ (HS.out.reads 0 rfl).2.2 (HS.out.reads 0 rfl).2.1 HX.out (TabOK.below HTab.out HS.out.B)) ?_
         rintro e_ W_ ⟨v_, rfl, hR_, hb⟩
         refine ⟨_, rfl, ?_⟩
         obtain ⟨Ax, cx, rfl⟩ := Kd.R_slice hR_
         have HN := Lib.hid (HS.out.ring hb hR_)
         clear HS hb hR_
         have HS := Lib.hid HN.out
         clear HN
         refine hK.out _ _ ⟨HS.out.get 1 rfl, HS.out.get 0 rfl⟩ (fun hHeld => ?_)
         clear hK K
         refine norm_ (a' := ?_) ?_ ?_
         rotate_left
         · show Act.put _ (some 30) _ = _
           simp only [Act.put, List.setIfInBounds_toArray, List.set_cons_zero, List.set_cons_succ, i64_w, i32_w]
           rfl
         refine pure_ (i := 4) (N := some 26) (v := .tuple #[.agg #[(.slice Ax lx.length cx), .int .i64 x1, .int .i64 x2], .agg #[.bool x3, .int .i64 x4, .int .i64 x5, .int .i64 x6, .int .i64 x7, .int .i64 x8], .int .i64 x9]) (a' := ?_) #[true, true, true, true, true, false, false, false, false, false, false, false, false] rfl rfl (by kernel_rfl) (fun _ _ _ h => h) (Or.inl ⟨by rfl, fun w' => by go_simp⟩) ?_ ?_
         rotate_left
         · simp only [Act.put, List.setIfInBounds_toArray, List.set_cons_zero, List.set_cons_succ, i64_w, i32_w]
           rfl
         refine pure_ (i := 5) (N := some 31) (v := .agg #[(.slice Ax lx.length cx), .int .i64 x1, .int .i64 x2]) (a' := ?_) #[true, true, true, true, true, true, false, false, false, false, false, false, false] rfl rfl (by kernel_rfl) (fun _ _ _ h => h) (Or.inl ⟨by rfl, fun w' => by go_simp⟩) ?_ ?_
         rotate_left
         · simp only [Act.put, List.setIfInBounds_toArray, List.set_cons_zero, List.set_cons_succ, i64_w, i32_w]
           rfl
         refine pure_ (i := 6) (N := some 32) (v := .agg #[.bool x3, .int .i64 x4, .int .i64 x5, .int .i64 x6, .int .i64 x7, .int .i64 x8]) (a' := ?_) #[true, true, true, true, true, true, true, false, false, false, false, false, false] rfl rfl (by kernel_rfl) (fun _ _ _ h => h) (Or.inl ⟨by rfl, fun w' => by go_simp⟩) ?_ ?_
         rotate_left
         · simp only [Act.put, List.setIfInBounds_toArray, List.set_cons_zero, List.set_cons_succ, i64_w, i32_w]
           rfl
         refine pure_ (i := 7) (N := some 33) (v := .int .i64 x9) (a' := ?_) #[true, true, true, true, true, true, true, true, false, false, false, false, false] rfl rfl (by kernel_rfl) (fun _ _ _ h => h) (Or.inl ⟨by rfl, fun w' => by go_simp⟩) ?_ ?_
         rotate_left
         · simp only [Act.put, List.setIfInBounds_toArray, List.set_cons_zero, List.set_cons_succ, i64_w, i32_w]
           rfl
         rotate_left
         refine box_step (cs := #[.slice none 0 0, .int .i64 0, .int .i64 0]) (t := 24) (by rfl) rfl (by first | (go_simp; done) | (go_simp; rfl)) ?_
         intro kx hE_ W_ hbox hb
         have HN := Lib.hid (HS.out.box hE_ hbox hb)
         clear HS hE_ hbox hb
         have HS := Lib.hid HN.out
         clear HN
         refine hK.out _ _ ⟨HS.out.get 2 rfl, HS.out.get 1 rfl⟩ (fun hHeld => ?_)
         clear hK K
         refine norm_ (a' := ?_) ?_ ?_
         rotate_left
         · show Act.put _ (some 5) _ = _
           simp only [Act.put, List.setIfInBounds_toArray, List.set_cons_zero, List.set_cons_succ, i64_w, i32_w]
           rfl
         rotate_left
         refine box_step (cs := #[.bool false, .int .i64 0, .int .i64 0, .int .i64 0, .int .i64 0, .int .i64 0]) (t := 27) (by rfl) rfl (by first | (go_simp; done) | (go_simp; rfl)) ?_
         intro ku hE_ W_ hbox hb
         have HN := Lib.hid (HS.out.box hE_ hbox hb)
         clear HS hE_ hbox hb
         have HS := Lib.hid HN.out
         clear HN
         refine hK.out _ _ ⟨HS.out.get 2 rfl, HS.out.get 1 rfl⟩ (fun hHeld => ?_)
         clear hK K
         refine norm_ (a' := ?_) ?_ ?_
         rotate_left
         · show Act.put _ (some 6) _ = _
           simp only [Act.put, List.setIfInBounds_toArray, List.set_cons_zero, List.set_cons_succ, i64_w, i32_w]
           rfl
         rotate_left)
      | (refine two_ (l := #[true, false, true, false, false, false, false, false, true, false, false, false, false]) (i := 1) (j := 9) (Ni := some 28) (Nj := some 6) #[true, true, true, false, false, false, false, false, true, false, false, false, false] #[true, false, true, false, false, false, false, false, true, true, false, false, false] rfl rfl rfl rfl (by kernel_rfl) (by decide) (by decide) (fun K hK => ?_) (fun K hK => ?_)
         refine goes_ Tryd.func10 (by kernel_rfl) rfl #[.agg #[.slice A0_0 l0_0.length c0_0, .int .i64 a0_1, .int .i64 a0_2]] (by rfl) rfl rfl (by (try simp only [List.map_toArray, List.map_cons, List.map_nil]); first | done | rfl) ?_
         refine Calls.mono (trefoillaw12_Own.calls A0_0 c0_0 l0_0 a0_1 a0_2 l0_0 a0_1 a0_2 _ ?_ ?_ HW.out) ?_
         · exact Kd.C_below HR.out HS.out.B
         · exact Hc.out
         rintro e_ W_ ⟨v_, rfl, hR_, hb⟩
         refine ⟨_, rfl, ?_⟩
         obtain ⟨Ao, co, rfl⟩ := Kd.R_slice hR_
         have HN := Lib.hid (HS.out.ring hb hR_)
         clear HS hb hR_
         have HS := Lib.hid HN.out
         clear HN
         refine hK.out _ _ ⟨HS.out.get 2 rfl, HS.out.get 1 rfl⟩ (fun hHeld => ?_)
         clear hK K
         refine norm_ (a' := ?_) ?_ ?_
         rotate_left
         · show Act.put _ (some 28) _ = _
           simp only [Act.put, List.setIfInBounds_toArray, List.set_cons_zero, List.set_cons_succ, i64_w, i32_w]
           rfl
         rotate_left
         refine box_step (cs := #[.bool false, .int .i64 0, .int .i64 0, .int .i64 0, .int .i64 0, .int .i64 0]) (t := 27) (by rfl) rfl (by first | (go_simp; done) | (go_simp; rfl)) ?_
         intro ku hE_ W_ hbox hb
         have HN := Lib.hid (HS.out.box hE_ hbox hb)
         clear HS hE_ hbox hb
         have HS := Lib.hid HN.out
         clear HN
         refine hK.out _ _ ⟨HS.out.get 3 rfl, HS.out.get 2 rfl⟩ (fun hHeld => ?_)
         clear hK K
         refine norm_ (a' := ?_) ?_ ?_
         rotate_left
         · show Act.put _ (some 6) _ = _
           simp only [Act.put, List.setIfInBounds_toArray, List.set_cons_zero, List.set_cons_succ, i64_w, i32_w]
           rfl
         rotate_left)
      | (refine two_ (l := #[true, false, true, false, false, false, false, false, false, true, false, false, false]) (i := 1) (j := 8) (Ni := some 28) (Nj := some 5) #[true, true, true, false, false, false, false, false, false, true, false, false, false] #[true, false, true, false, false, false, false, false, true, true, false, false, false] rfl rfl rfl rfl (by kernel_rfl) (by decide) (by decide) (fun K hK => ?_) (fun K hK => ?_)
         refine goes_ Tryd.func10 (by kernel_rfl) rfl #[.agg #[.slice A0_0 l0_0.length c0_0, .int .i64 a0_1, .int .i64 a0_2]] (by rfl) rfl rfl (by (try simp only [List.map_toArray, List.map_cons, List.map_nil]); first | done | rfl) ?_
         refine Calls.mono (trefoillaw12_Own.calls A0_0 c0_0 l0_0 a0_1 a0_2 l0_0 a0_1 a0_2 _ ?_ ?_ HW.out) ?_
         · exact Kd.C_below HR.out HS.out.B
         · exact Hc.out
         rintro e_ W_ ⟨v_, rfl, hR_, hb⟩
         refine ⟨_, rfl, ?_⟩
         obtain ⟨Ao, co, rfl⟩ := Kd.R_slice hR_
         have HN := Lib.hid (HS.out.ring hb hR_)
         clear HS hb hR_
         have HS := Lib.hid HN.out
         clear HN
         refine hK.out _ _ ⟨HS.out.get 2 rfl, HS.out.get 1 rfl⟩ (fun hHeld => ?_)
         clear hK K
         refine norm_ (a' := ?_) ?_ ?_
         rotate_left
         · show Act.put _ (some 28) _ = _
           simp only [Act.put, List.setIfInBounds_toArray, List.set_cons_zero, List.set_cons_succ, i64_w, i32_w]
           rfl
         rotate_left
         refine box_step (cs := #[.slice none 0 0, .int .i64 0, .int .i64 0]) (t := 24) (by rfl) rfl (by first | (go_simp; done) | (go_simp; rfl)) ?_
         intro kx hE_ W_ hbox hb
         have HN := Lib.hid (HS.out.box hE_ hbox hb)
         clear HS hE_ hbox hb
         have HS := Lib.hid HN.out
         clear HN
         refine hK.out _ _ ⟨HS.out.get 3 rfl, HS.out.get 2 rfl⟩ (fun hHeld => ?_)
         clear hK K
         refine norm_ (a' := ?_) ?_ ?_
         rotate_left
         · show Act.put _ (some 5) _ = _
           simp only [Act.put, List.setIfInBounds_toArray, List.set_cons_zero, List.set_cons_succ, i64_w, i32_w]
           rfl
         have HN := Lib.hid HS.out.swap
         clear HS
         have HS := Lib.hid HN.out
         clear HN
         rotate_left)
      )
    all_goals (first
      | (refine two_ (l := #[true, true, true, true, true, true, true, true, false, false, false, false, false]) (i := 8) (j := 9) (Ni := some 5) (Nj := some 6) #[true, true, true, true, true, true, true, true, true, false, false, false, false] #[true, true, true, true, true, true, true, true, false, true, false, false, false] rfl rfl rfl rfl (by kernel_rfl) (by decide) (by decide) (fun K hK => ?_) (fun K hK => ?_)
         refine box_step (cs := #[.slice none 0 0, .int .i64 0, .int .i64 0]) (t := 24) (by rfl) rfl (by first | (go_simp; done) | (go_simp; rfl)) ?_
         intro kx hE_ W_ hbox hb
         have HN := Lib.hid (HS.out.box hE_ hbox hb)
         clear HS hE_ hbox hb
         have HS := Lib.hid HN.out
         clear HN
         refine hK.out _ _ ⟨HS.out.get 2 rfl, HS.out.get 1 rfl⟩ (fun hHeld => ?_)
         clear hK K
         refine norm_ (a' := ?_) ?_ ?_
         rotate_left
         · show Act.put _ (some 5) _ = _
           simp only [Act.put, List.setIfInBounds_toArray, List.set_cons_zero, List.set_cons_succ, i64_w, i32_w]
           rfl
         rotate_left
         refine box_step (cs := #[.bool false, .int .i64 0, .int .i64 0, .int .i64 0, .int .i64 0, .int .i64 0]) (t := 27) (by rfl) rfl (by first | (go_simp; done) | (go_simp; rfl)) ?_
         intro ku hE_ W_ hbox hb
         have HN := Lib.hid (HS.out.box hE_ hbox hb)
         clear HS hE_ hbox hb
         have HS := Lib.hid HN.out
         clear HN
         refine hK.out _ _ ⟨HS.out.get 2 rfl, HS.out.get 1 rfl⟩ (fun hHeld => ?_)
         clear hK K
         refine norm_ (a' := ?_) ?_ ?_
         rotate_left
         · show Act.put _ (some 6) _ = _
           simp only [Act.put, List.setIfInBounds_toArray, List.set_cons_zero, List.set_cons_succ, i64_w, i32_w]
           rfl
         rotate_left)
      | (refine two_ (l := #[true, true, true, false, false, false, false, false, true, false, false, false, false]) (i := 3) (j := 9) (Ni := some 30) (Nj := some 6) #[true, true, true, true, false, false, false, false, true, false, false, false, false] #[true, true, true, false, false, false, false, false, true, true, false, false, false] rfl rfl rfl rfl (by kernel_rfl) (by decide) (by decide) (fun K hK => ?_) (fun K hK => ?_)
         refine goes_ Tryd.func9 (by kernel_rfl) rfl #[.agg #[.slice Ao l0_0.length co, .int .i64 a0_1, .int .i64 a0_2], .agg #[.bool a1_0, .int .i64 a1_1, .int .i64 a1_2, .int .i64 a1_3, .int .i64 a1_4, .int .i64 a1_5]] (by rfl) rfl rfl (by (try simp only [List.map_toArray, List.map_cons, List.map_nil]); first | done | rfl) ?_
         refine Calls.mono (deque_Step.calls _ _ l0_0 a0_1 a0_2 a1_0 a1_1 a1_2 a1_3 a1_4 a1_5 lx x1 x2 x3 x4 x5 x6 x7 x8 x9 _ (HS.out.reads 0 rfl).2.2 (HS.out.reads 0 rfl).2.1 HX.out (TabOK.below HTab.out HS.out.B)) ?_
         rintro e_ W_ ⟨v_, rfl, hR_, hb⟩
         refine ⟨_, rfl, ?_⟩
         obtain ⟨Ax, cx, rfl⟩ := Kd.R_slice hR_
         have HN := Lib.hid (HS.out.ring hb hR_)
         clear HS hb hR_
         have HS := Lib.hid HN.out
         clear HN
         refine hK.out _ _ ⟨HS.out.get 2 rfl, HS.out.get 1 rfl⟩ (fun hHeld => ?_)
         clear hK K
         refine norm_ (a' := ?_) ?_ ?_
         rotate_left
         · show Act.put _ (some 30) _ = _
           simp only [Act.put, List.setIfInBounds_toArray, List.set_cons_zero, List.set_cons_succ, i64_w, i32_w]
           rfl
         refine pure_ (i := 4) (N := some 26) (v := .tuple #[.agg #[(.slice Ax lx.length cx), .int .i64 x1, .int .i64 x2], .agg #[.bool x3, .int .i64 x4, .int .i64 x5, .int .i64 x6, .int .i64 x7, .int .i64 x8], .int .i64 x9]) (a' := ?_) #[true, true, true, true, true, false, false, false, true, false, false, false, false] rfl rfl (by kernel_rfl) (fun _ _ _ h => h) (Or.inl ⟨by rfl, fun w' => by go_simp⟩) ?_ ?_
         rotate_left
         · simp only [Act.put, List.setIfInBounds_toArray, List.set_cons_zero, List.set_cons_succ, i64_w, i32_w]
           rfl
         refine pure_ (i := 5) (N := some 31) (v := .agg #[(.slice Ax lx.length cx), .int .i64 x1, .int .i64 x2]) (a' := ?_) #[true, true, true, true, true, true, false, false, true, false, false, false, false] rfl rfl (by kernel_rfl) (fun _ _ _ h => h) (Or.inl ⟨by rfl, fun w' => by go_simp⟩) ?_ ?_
         rotate_left
         · simp only [Act.put, List.setIfInBounds_toArray, List.set_cons_zero, List.set_cons_succ, i64_w, i32_w]
           rfl
         refine pure_ (i := 6) (N := some 32) (v := .agg #[.bool x3, .int .i64 x4, .int .i64 x5, .int .i64 x6, .int .i64 x7, .int .i64 x8]) (a' := ?_) #[true, true, true, true, true, true, true, false, true, false, false, false, false] rfl rfl (by kernel_rfl) (fun _ _ _ h => h) (Or.inl ⟨by rfl, fun w' => by go_simp⟩) ?_ ?_
         rotate_left
         · simp only [Act.put, List.setIfInBounds_toArray, List.set_cons_zero, List.set_cons_succ, i64_w, i32_w]
           rfl
         refine pure_ (i := 7) (N := some 33) (v := .int .i64 x9) (a' := ?_) #[true, true, true, true, true, true, true, true, true, false, false, false, false] rfl rfl (by kernel_rfl) (fun _ _ _ h => h) (Or.inl ⟨by rfl, fun w' => by go_simp⟩) ?_ ?_
         rotate_left
         · simp only [Act.put, List.setIfInBounds_toArray, List.set_cons_zero, List.set_cons_succ, i64_w, i32_w]
           rfl
         rotate_left
         refine box_step (cs := #[.bool false, .int .i64 0, .int .i64 0, .int .i64 0, .int .i64 0, .int .i64 0]) (t := 27) (by rfl) rfl (by first | (go_simp; done) | (go_simp; rfl)) ?_
         intro ku hE_ W_ hbox hb
         have HN := Lib.hid (HS.out.box hE_ hbox hb)
         clear HS hE_ hbox hb
         have HS := Lib.hid HN.out
         clear HN
         refine hK.out _ _ ⟨HS.out.get 3 rfl, HS.out.get 2 rfl⟩ (fun hHeld => ?_)
         clear hK K
         refine norm_ (a' := ?_) ?_ ?_
         rotate_left
         · show Act.put _ (some 6) _ = _
           simp only [Act.put, List.setIfInBounds_toArray, List.set_cons_zero, List.set_cons_succ, i64_w, i32_w]
           rfl
         rotate_left)
      | (refine two_ (l := #[true, true, true, false, false, false, false, false, false, true, false, false, false]) (i := 3) (j := 8) (Ni := some 30) (Nj := some 5) #[true, true, true, true, false, false, false, false, false, true, false, false, false] #[true, true, true, false, false, false, false, false, true, true, false, false, false] rfl rfl rfl rfl (by kernel_rfl) (by decide) (by decide) (fun K hK => ?_) (fun K hK => ?_)
         refine goes_ Tryd.func9 (by kernel_rfl) rfl #[.agg #[.slice Ao l0_0.length co, .int .i64 a0_1, .int .i64 a0_2], .agg #[.bool a1_0, .int .i64 a1_1, .int .i64 a1_2, .int .i64 a1_3, .int .i64 a1_4, .int .i64 a1_5]] (by rfl) rfl rfl (by (try simp only [List.map_toArray, List.map_cons, List.map_nil]); first | done | rfl) ?_
         refine Calls.mono (deque_Step.calls _ _ l0_0 a0_1 a0_2 a1_0 a1_1 a1_2 a1_3 a1_4 a1_5 lx x1 x2 x3 x4 x5 x6 x7 x8 x9 _ (HS.out.reads 0 rfl).2.2 (HS.out.reads 0 rfl).2.1 HX.out (TabOK.below HTab.out HS.out.B)) ?_
         rintro e_ W_ ⟨v_, rfl, hR_, hb⟩
         refine ⟨_, rfl, ?_⟩
         obtain ⟨Ax, cx, rfl⟩ := Kd.R_slice hR_
         have HN := Lib.hid (HS.out.ring hb hR_)
         clear HS hb hR_
         have HS := Lib.hid HN.out
         clear HN
         refine hK.out _ _ ⟨HS.out.get 2 rfl, HS.out.get 1 rfl⟩ (fun hHeld => ?_)
         clear hK K
         refine norm_ (a' := ?_) ?_ ?_
         rotate_left
         · show Act.put _ (some 30) _ = _
           simp only [Act.put, List.setIfInBounds_toArray, List.set_cons_zero, List.set_cons_succ, i64_w, i32_w]
           rfl
         refine pure_ (i := 4) (N := some 26) (v := .tuple #[.agg #[(.slice Ax lx.length cx), .int .i64 x1, .int .i64 x2], .agg #[.bool x3, .int .i64 x4, .int .i64 x5, .int .i64 x6, .int .i64 x7, .int .i64 x8], .int .i64 x9]) (a' := ?_) #[true, true, true, true, true, false, false, false, false, true, false, false, false] rfl rfl (by kernel_rfl) (fun _ _ _ h => h) (Or.inl ⟨by rfl, fun w' => by go_simp⟩) ?_ ?_
         rotate_left
         · simp only [Act.put, List.setIfInBounds_toArray, List.set_cons_zero, List.set_cons_succ, i64_w, i32_w]
           rfl
         refine pure_ (i := 5) (N := some 31) (v := .agg #[(.slice Ax lx.length cx), .int .i64 x1, .int .i64 x2]) (a' := ?_) #[true, true, true, true, true, true, false, false, false, true, false, false, false] rfl rfl (by kernel_rfl) (fun _ _ _ h => h) (Or.inl ⟨by rfl, fun w' => by go_simp⟩) ?_ ?_
         rotate_left
         · simp only [Act.put, List.setIfInBounds_toArray, List.set_cons_zero, List.set_cons_succ, i64_w, i32_w]
           rfl
         refine pure_ (i := 6) (N := some 32) (v := .agg #[.bool x3, .int .i64 x4, .int .i64 x5, .int .i64 x6, .int .i64 x7, .int .i64 x8]) (a' := ?_) #[true, true, true, true, true, true, true, false, false, true, false, false, false] rfl rfl (by kernel_rfl) (fun _ _ _ h => h) (Or.inl ⟨by rfl, fun w' => by go_simp⟩) ?_ ?_
         rotate_left
         · simp only [Act.put, List.setIfInBounds_toArray, List.set_cons_zero, List.set_cons_succ, i64_w, i32_w]
           rfl
         refine pure_ (i := 7) (N := some 33) (v := .int .i64 x9) (a' := ?_) #[true, true, true, true, true, true, true, true, false, true, false, false, false] rfl rfl (by kernel_rfl) (fun _ _ _ h => h) (Or.inl ⟨by rfl, fun w' => by go_simp⟩) ?_ ?_
         rotate_left
         · simp only [Act.put, List.setIfInBounds_toArray, List.set_cons_zero, List.set_cons_succ, i64_w, i32_w]
           rfl
         rotate_left
         refine box_step (cs := #[.slice none 0 0, .int .i64 0, .int .i64 0]) (t := 24) (by rfl) rfl (by first | (go_simp; done) | (go_simp; rfl)) ?_
         intro kx hE_ W_ hbox hb
         have HN := Lib.hid (HS.out.box hE_ hbox hb)
         clear HS hE_ hbox hb
         have HS := Lib.hid HN.out
         clear HN
         refine hK.out _ _ ⟨HS.out.get 3 rfl, HS.out.get 2 rfl⟩ (fun hHeld => ?_)
         clear hK K
         refine norm_ (a' := ?_) ?_ ?_
         rotate_left
         · show Act.put _ (some 5) _ = _
           simp only [Act.put, List.setIfInBounds_toArray, List.set_cons_zero, List.set_cons_succ, i64_w, i32_w]
           rfl
         have HN := Lib.hid HS.out.swap
         clear HS
         have HS := Lib.hid HN.out
         clear HN
         rotate_left)
      | (refine one_ (l := #[true, false, true, false, false, false, false, false, true, true, false, false, false]) (i := 1) (N := some 28) #[true, true, true, false, false, false, false, false, true, true, false, false, false] rfl rfl (by kernel_rfl) (by decide) (fun K hK => ?_)
         refine goes_ Tryd.func10 (by kernel_rfl) rfl #[.agg #[.slice A0_0 l0_0.length c0_0, .int .i64 a0_1, .int .i64 a0_2]] (by rfl) rfl rfl (by (try simp only [List.map_toArray, List.map_cons, List.map_nil]); first | done | rfl) ?_
         refine Calls.mono (trefoillaw12_Own.calls A0_0 c0_0 l0_0 a0_1 a0_2 l0_0 a0_1 a0_2 _ ?_ ?_ HW.out) ?_
         · exact Kd.C_below HR.out HS.out.B
         · exact Hc.out
         rintro e_ W_ ⟨v_, rfl, hR_, hb⟩
         refine ⟨_, rfl, ?_⟩
         obtain ⟨Ao, co, rfl⟩ := Kd.R_slice hR_
         have HN := Lib.hid (HS.out.ring hb hR_)
         clear HS hb hR_
         have HS := Lib.hid HN.out
         clear HN
         refine hK.out _ _ ⟨HS.out.get 3 rfl, HS.out.get 2 rfl⟩ (fun hHeld => ?_)
         clear hK K
         refine norm_ (a' := ?_) ?_ ?_
         rotate_left
         · show Act.put _ (some 28) _ = _
           simp only [Act.put, List.setIfInBounds_toArray, List.set_cons_zero, List.set_cons_succ, i64_w, i32_w]
           rfl)
      )
    all_goals (first
      | (refine one_ (l := #[true, true, true, true, true, true, true, true, true, false, false, false, false]) (i := 9) (N := some 6) #[true, true, true, true, true, true, true, true, true, true, false, false, false] rfl rfl (by kernel_rfl) (by decide) (fun K hK => ?_)
         refine box_step (cs := #[.bool false, .int .i64 0, .int .i64 0, .int .i64 0, .int .i64 0, .int .i64 0]) (t := 27) (by rfl) rfl (by first | (go_simp; done) | (go_simp; rfl)) ?_
         intro ku hE_ W_ hbox hb
         have HN := Lib.hid (HS.out.box hE_ hbox hb)
         clear HS hE_ hbox hb
         have HS := Lib.hid HN.out
         clear HN
         refine hK.out _ _ ⟨HS.out.get 3 rfl, HS.out.get 2 rfl⟩ (fun hHeld => ?_)
         clear hK K
         refine norm_ (a' := ?_) ?_ ?_
         rotate_left
         · show Act.put _ (some 6) _ = _
           simp only [Act.put, List.setIfInBounds_toArray, List.set_cons_zero, List.set_cons_succ, i64_w, i32_w]
           rfl)
      | (refine one_ (l := #[true, true, true, true, true, true, true, true, false, true, false, false, false]) (i := 8) (N := some 5) #[true, true, true, true, true, true, true, true, true, true, false, false, false] rfl rfl (by kernel_rfl) (by decide) (fun K hK => ?_)
         refine box_step (cs := #[.slice none 0 0, .int .i64 0, .int .i64 0]) (t := 24) (by rfl) rfl (by first | (go_simp; done) | (go_simp; rfl)) ?_
         intro kx hE_ W_ hbox hb
         have HN := Lib.hid (HS.out.box hE_ hbox hb)
         clear HS hE_ hbox hb
         have HS := Lib.hid HN.out
         clear HN
         refine hK.out _ _ ⟨HS.out.get 3 rfl, HS.out.get 2 rfl⟩ (fun hHeld => ?_)
         clear hK K
         refine norm_ (a' := ?_) ?_ ?_
         rotate_left
         · show Act.put _ (some 5) _ = _
           simp only [Act.put, List.setIfInBounds_toArray, List.set_cons_zero, List.set_cons_succ, i64_w, i32_w]
           rfl
         have HN := Lib.hid HS.out.swap
         clear HS
         have HS := Lib.hid HN.out
         clear HN)
      | (refine one_ (l := #[true, true, true, false, false, false, false, false, true, true, false, false, false]) (i := 3) (N := some 30) #[true, true, true, true, false, false, false, false, true, true, false, false, false] rfl rfl (by kernel_rfl) (by decide) (fun K hK => ?_)
         refine goes_ Tryd.func9 (by kernel_rfl) rfl #[.agg #[.slice Ao l0_0.length co, .int .i64 a0_1, .int .i64 a0_2], .agg #[.bool a1_0, .int .i64 a1_1, .int .i64 a1_2, .int .i64 a1_3, .int .i64 a1_4, .int .i64 a1_5]] (by rfl) rfl rfl (by (try simp only [List.map_toArray, List.map_cons, List.map_nil]); first | done | rfl) ?_
         refine Calls.mono (deque_Step.calls _ _ l0_0 a0_1 a0_2 a1_0 a1_1 a1_2 a1_3 a1_4 a1_5 lx x1 x2 x3 x4 x5 x6 x7 x8 x9 _ (HS.out.reads 0 rfl).2.2 (HS.out.reads 0 rfl).2.1 HX.out (TabOK.below HTab.out HS.out.B)) ?_
         rintro e_ W_ ⟨v_, rfl, hR_, hb⟩
         refine ⟨_, rfl, ?_⟩
         obtain ⟨Ax, cx, rfl⟩ := Kd.R_slice hR_
         have HN := Lib.hid (HS.out.ring hb hR_)
         clear HS hb hR_
         have HS := Lib.hid HN.out
         clear HN
         refine hK.out _ _ ⟨HS.out.get 3 rfl, HS.out.get 2 rfl⟩ (fun hHeld => ?_)
         clear hK K
         refine norm_ (a' := ?_) ?_ ?_
         rotate_left
         · show Act.put _ (some 30) _ = _
           simp only [Act.put, List.setIfInBounds_toArray, List.set_cons_zero, List.set_cons_succ, i64_w, i32_w]
           rfl
         refine pure_ (i := 4) (N := some 26) (v := .tuple #[.agg #[(.slice Ax lx.length cx), .int .i64 x1, .int .i64 x2], .agg #[.bool x3, .int .i64 x4, .int .i64 x5, .int .i64 x6, .int .i64 x7, .int .i64 x8], .int .i64 x9]) (a' := ?_) #[true, true, true, true, true, false, false, false, true, true, false, false, false] rfl rfl (by kernel_rfl) (fun _ _ _ h => h) (Or.inl ⟨by rfl, fun w' => by go_simp⟩) ?_ ?_
         rotate_left
         · simp only [Act.put, List.setIfInBounds_toArray, List.set_cons_zero, List.set_cons_succ, i64_w, i32_w]
           rfl
         refine pure_ (i := 5) (N := some 31) (v := .agg #[(.slice Ax lx.length cx), .int .i64 x1, .int .i64 x2]) (a' := ?_) #[true, true, true, true, true, true, false, false, true, true, false, false, false] rfl rfl (by kernel_rfl) (fun _ _ _ h => h) (Or.inl ⟨by rfl, fun w' => by go_simp⟩) ?_ ?_
         rotate_left
         · simp only [Act.put, List.setIfInBounds_toArray, List.set_cons_zero, List.set_cons_succ, i64_w, i32_w]
           rfl
         refine pure_ (i := 6) (N := some 32) (v := .agg #[.bool x3, .int .i64 x4, .int .i64 x5, .int .i64 x6, .int .i64 x7, .int .i64 x8]) (a' := ?_) #[true, true, true, true, true, true, true, false, true, true, false, false, false] rfl rfl (by kernel_rfl) (fun _ _ _ h => h) (Or.inl ⟨by rfl, fun w' => by go_simp⟩) ?_ ?_
         rotate_left
         · simp only [Act.put, List.setIfInBounds_toArray, List.set_cons_zero, List.set_cons_succ, i64_w, i32_w]
           rfl
         refine pure_ (i := 7) (N := some 33) (v := .int .i64 x9) (a' := ?_) #[true, true, true, true, true, true, true, true, true, true, false, false, false] rfl rfl (by kernel_rfl) (fun _ _ _ h => h) (Or.inl ⟨by rfl, fun w' => by go_simp⟩) ?_ ?_
         rotate_left
         · simp only [Act.put, List.setIfInBounds_toArray, List.set_cons_zero, List.set_cons_succ, i64_w, i32_w]
           rfl)
      )
    all_goals (
      refine one_ (i := 10) (N := none) #[true, true, true, true, true, true, true, true, true, true, true, false, false] rfl rfl (by kernel_rfl) (by decide) (fun K hK => ?_)
      refine skip_ (by rfl) rfl (run_store_row_ rfl kx rfl #[(.slice Ax lx.length cx), .int .i64 x1, .int .i64 x2] #[.slice none 0 0, .int .i64 0, .int .i64 0] 24 (HS.out.get 1 rfl) rfl (by kernel_rfl) rfl rfl) ?_
      have HN := Lib.hid (show St w [(ku, #[.bool false, .int .i64 0, .int .i64 0, .int .i64 0, .int .i64 0, .int .i64 0], 27), (kx, #[(.slice Ax lx.length cx), .int .i64 x1, .int .i64 x2], 24), (kt, #[.bool a1_0, .int .i64 a1_1, .int .i64 a1_2, .int .i64 a1_3, .int .i64 a1_4, .int .i64 a1_5], 27), (kq, #[.slice A0_0 l0_0.length c0_0, .int .i64 a0_1, .int .i64 a0_2], 24)] [((.slice Ax lx.length cx), lx), ((.slice Ao l0_0.length co), l0_0)] _ from HS.out.row 1 rfl #[(.slice Ax lx.length cx), .int .i64 x1, .int .i64 x2])
      clear HS
      have HS := Lib.hid HN.out
      clear HN
      refine hK.out _ _ ⟨HS.out.get 3 rfl, HS.out.get 2 rfl⟩ (fun hHeld => ?_)
      clear hK K
      refine one_ (i := 11) (N := none) #[true, true, true, true, true, true, true, true, true, true, true, true, false] rfl rfl (by kernel_rfl) (by decide) (fun K hK => ?_)
      refine skip_ (by rfl) rfl (run_store_row_ rfl ku rfl #[.bool x3, .int .i64 x4, .int .i64 x5, .int .i64 x6, .int .i64 x7, .int .i64 x8] #[.bool false, .int .i64 0, .int .i64 0, .int .i64 0, .int .i64 0, .int .i64 0] 27 (HS.out.get 0 rfl) rfl (by kernel_rfl) rfl rfl) ?_
      have HN := Lib.hid (show St w [(ku, #[.bool x3, .int .i64 x4, .int .i64 x5, .int .i64 x6, .int .i64 x7, .int .i64 x8], 27), (kx, #[(.slice Ax lx.length cx), .int .i64 x1, .int .i64 x2], 24), (kt, #[.bool a1_0, .int .i64 a1_1, .int .i64 a1_2, .int .i64 a1_3, .int .i64 a1_4, .int .i64 a1_5], 27), (kq, #[.slice A0_0 l0_0.length c0_0, .int .i64 a0_1, .int .i64 a0_2], 24)] [((.slice Ax lx.length cx), lx), ((.slice Ao l0_0.length co), l0_0)] _ from HS.out.row 0 rfl #[.bool x3, .int .i64 x4, .int .i64 x5, .int .i64 x6, .int .i64 x7, .int .i64 x8])
      clear HS
      have HS := Lib.hid HN.out
      clear HN
      refine hK.out _ _ ⟨HS.out.get 3 rfl, HS.out.get 2 rfl⟩ (fun hHeld => ?_)
      clear hK K
      refine pure_ (i := 12) (N := some 7) (v := .int .i64 x9) (a' := ?_) #[true, true, true, true, true, true, true, true, true, true, true, true, true] rfl rfl (by kernel_rfl) (fun _ _ _ h => h) (Or.inl ⟨by rfl, fun w' => by go_simp⟩) ?_ ?_
      rotate_left
      · simp only [Act.put, List.setIfInBounds_toArray, List.set_cons_zero, List.set_cons_succ, i64_w, i32_w]
        rfl
      refine done_ (by kernel_rfl) ?_
      try go_wp2
      go_meet
      exact ⟨kx, ku, Ax, Ao, cx, co, rfl, rfl, rfl, ⟨HS.out⟩⟩
      )
  case rest =>
    clear HS
    obtain ⟨kx, ku, Ax, Ao, cx, co, rfl, rfl, rfl, HS0⟩ := hcut
    have HS := Lib.hid HS0.out
    clear HS0
    obtain ⟨Ay, cy, ly, ey, hly, hlv, hCy⟩ := rv_slice (w := w) x9 HR.out Hc.out
    obtain rfl : ly = lx := hlv.trans Hlx.out.symm
    have EY := Lib.hid ey
    have HcY := Lib.hid hly
    have HCY := Lib.hid hCy
    clear ey hly hlv hCy
    go_wp2_with (first | ((with_reducible refine gate_dst (N := 35) rfl ?_); refine wpList_load_row rfl 24 (.tmp 2) rfl kq rfl 24 #[.slice A0_0 l0_0.length c0_0, .int .i64 a0_1, .int .i64 a0_2] (0, 0) _ (HS.out.get 3 rfl) Tryd.underlying24 rfl (by kernel_rfl) ?_) | ((with_reducible refine gate_dst (N := 36) rfl ?_); refine wpList_load_row rfl 27 (.tmp 3) rfl kt rfl 27 #[.bool a1_0, .int .i64 a1_1, .int .i64 a1_2, .int .i64 a1_3, .int .i64 a1_4, .int .i64 a1_5] (0, 0) _ (HS.out.get 2 rfl) Tryd.underlying27 rfl (by kernel_rfl) ?_) | (go_at_call 11; refine Calls.mono (ref_step.does A0_0 c0_0 l0_0 a0_1 a0_2 a1_0 a1_1 a1_2 a1_3 a1_4 a1_5 x1 x2 x3 x4 x5 x6 x7 x8 x9 HY.out _ ?_ ?_) ?_; exact Kd.C_below HR.out HS.out.B; exact Hc.out; rintro en_ W_ ⟨he_, hb⟩; rw [EY.out] at he_; subst he_; have HN := Lib.hid (HS.out.below hb); clear HS hb; have HS := Lib.hid HN.out; clear HN) | ((with_reducible refine gate_dst (N := 8) rfl ?_); refine box_event ?hg (N := 8) ?hd (cs := #[.slice none 0 0, .int .i64 0, .int .i64 0]) (t := 24) ?hr ?_; (case hd => rfl); (case hg => rfl); (case hr => first | (go_simp; done) | (go_simp; rfl)); intro ky hE_ W_ hbox hb; have HN := Lib.hid (show St w [(ky, #[.slice none 0 0, .int .i64 0, .int .i64 0], 24), (ku, #[.bool x3, .int .i64 x4, .int .i64 x5, .int .i64 x6, .int .i64 x7, .int .i64 x8], 27), (kx, #[(.slice Ax ly.length cx), .int .i64 x1, .int .i64 x2], 24), (kt, #[.bool a1_0, .int .i64 a1_1, .int .i64 a1_2, .int .i64 a1_3, .int .i64 a1_4, .int .i64 a1_5], 27), (kq, #[.slice A0_0 l0_0.length c0_0, .int .i64 a0_1, .int .i64 a0_2], 24)] [((.slice Ax ly.length cx), ly), ((.slice Ao l0_0.length co), l0_0)] _ from HS.out.box hE_ hbox hb); clear HS hE_ hbox hb; have HS := Lib.hid HN.out; clear HN) | ((with_reducible refine gate_dst (N := 9) rfl ?_); refine box_event ?hg (N := 9) ?hd (cs := #[.bool false, .int .i64 0, .int .i64 0, .int .i64 0, .int .i64 0, .int .i64 0]) (t := 27) ?hr ?_; (case hd => rfl); (case hg => rfl); (case hr => first | (go_simp; done) | (go_simp; rfl)); intro kv hE_ W_ hbox hb; have HN := Lib.hid (show St w [(kv, #[.bool false, .int .i64 0, .int .i64 0, .int .i64 0, .int .i64 0, .int .i64 0], 27), (ky, #[.slice none 0 0, .int .i64 0, .int .i64 0], 24), (ku, #[.bool x3, .int .i64 x4, .int .i64 x5, .int .i64 x6, .int .i64 x7, .int .i64 x8], 27), (kx, #[(.slice Ax ly.length cx), .int .i64 x1, .int .i64 x2], 24), (kt, #[.bool a1_0, .int .i64 a1_1, .int .i64 a1_2, .int .i64 a1_3, .int .i64 a1_4, .int .i64 a1_5], 27), (kq, #[.slice A0_0 l0_0.length c0_0, .int .i64 a0_1, .int .i64 a0_2], 24)] [((.slice Ax ly.length cx), ly), ((.slice Ao l0_0.length co), l0_0)] _ from HS.out.box hE_ hbox hb); clear HS hE_ hbox hb; have HS := Lib.hid HN.out; clear HN) | ((with_reducible refine gate_store (t := 24) (p := 8) (v := .tmp 38) ?hgs ?_); (case hgs => rfl); refine wpList_store_row rfl rfl 24 8 (.tmp 38) rfl ky rfl #[(.slice Ay ly.length cy), .int .i64 x1, .int .i64 x2] #[.slice none 0 0, .int .i64 0, .int .i64 0] 24 (HS.out.get 1 rfl) (by rfl) (by kernel_rfl) rfl (by rfl) (fun W_ => St w [(kv, #[.bool false, .int .i64 0, .int .i64 0, .int .i64 0, .int .i64 0, .int .i64 0], 27), (ky, #[(.slice Ay ly.length cy), .int .i64 x1, .int .i64 x2], 24), (ku, #[.bool x3, .int .i64 x4, .int .i64 x5, .int .i64 x6, .int .i64 x7, .int .i64 x8], 27), (kx, #[(.slice Ax ly.length cx), .int .i64 x1, .int .i64 x2], 24), (kt, #[.bool a1_0, .int .i64 a1_1, .int .i64 a1_2, .int .i64 a1_3, .int .i64 a1_4, .int .i64 a1_5], 27), (kq, #[.slice A0_0 l0_0.length c0_0, .int .i64 a0_1, .int .i64 a0_2], 24)] [((.slice Ax ly.length cx), ly), ((.slice Ao l0_0.length co), l0_0)] W_) (HS.out.row 1 rfl #[(.slice Ay ly.length cy), .int .i64 x1, .int .i64 x2]) ?_; rintro W_ he_; clear HS; have HS := Lib.hid he_; clear he_) | ((with_reducible refine gate_store (t := 27) (p := 9) (v := .tmp 39) ?hgs ?_); (case hgs => rfl); refine wpList_store_row rfl rfl 27 9 (.tmp 39) rfl kv rfl #[.bool x3, .int .i64 x4, .int .i64 x5, .int .i64 x6, .int .i64 x7, .int .i64 x8] #[.bool false, .int .i64 0, .int .i64 0, .int .i64 0, .int .i64 0, .int .i64 0] 27 (HS.out.get 0 rfl) (by rfl) (by kernel_rfl) rfl (by rfl) (fun W_ => St w [(kv, #[.bool x3, .int .i64 x4, .int .i64 x5, .int .i64 x6, .int .i64 x7, .int .i64 x8], 27), (ky, #[(.slice Ay ly.length cy), .int .i64 x1, .int .i64 x2], 24), (ku, #[.bool x3, .int .i64 x4, .int .i64 x5, .int .i64 x6, .int .i64 x7, .int .i64 x8], 27), (kx, #[(.slice Ax ly.length cx), .int .i64 x1, .int .i64 x2], 24), (kt, #[.bool a1_0, .int .i64 a1_1, .int .i64 a1_2, .int .i64 a1_3, .int .i64 a1_4, .int .i64 a1_5], 27), (kq, #[.slice A0_0 l0_0.length c0_0, .int .i64 a0_1, .int .i64 a0_2], 24)] [((.slice Ax ly.length cx), ly), ((.slice Ao l0_0.length co), l0_0)] W_) (HS.out.row 0 rfl #[.bool x3, .int .i64 x4, .int .i64 x5, .int .i64 x6, .int .i64 x7, .int .i64 x8]) ?_; rintro W_ he_; clear HS; have HS := Lib.hid he_; clear he_))
    go_cut [11, 12, 13] (fun v11 v12 v13 wc => ∃ (kp kw : Nat) (Ap Au : Option Addr) (cp cu : Nat), v11 = .pointer (some ⟨kp, 0, none⟩) ∧ v12 = .pointer (some ⟨kw, 0, none⟩) ∧ v13 = .int .i64 p9 ∧ Aside0 (St w [(kw, #[.bool p3, .int .i64 p4, .int .i64 p5, .int .i64 p6, .int .i64 p7, .int .i64 p8], 27), (kp, #[(.slice Ap lp.length cp), .int .i64 p1, .int .i64 p2], 24), (kv, #[.bool x3, .int .i64 x4, .int .i64 x5, .int .i64 x6, .int .i64 x7, .int .i64 x8], 27), (ky, #[(.slice Ay ly.length cy), .int .i64 x1, .int .i64 x2], 24), (ku, #[.bool x3, .int .i64 x4, .int .i64 x5, .int .i64 x6, .int .i64 x7, .int .i64 x8], 27), (kx, #[(.slice Ax ly.length cx), .int .i64 x1, .int .i64 x2], 24), (kt, #[.bool a1_0, .int .i64 a1_1, .int .i64 a1_2, .int .i64 a1_3, .int .i64 a1_4, .int .i64 a1_5], 27), (kq, #[.slice A0_0 l0_0.length c0_0, .int .i64 a0_1, .int .i64 a0_2], 24)] [((.slice Ap lp.length cp), lp), ((.slice Au l0_0.length cu), l0_0), ((.slice Ax ly.length cx), ly), ((.slice Ao l0_0.length co), l0_0)] wc))
    case first =>
      have HN := Lib.hid (HS.out.below (below_drew1 (Below.refl _ _)))
      clear HS
      have HS := Lib.hid HN.out
      clear HN
      refine start_ (n := 14) (S := fun W_ => W_.heap[kq]? = some (.cells #[.slice A0_0 l0_0.length c0_0, .int .i64 a0_1, .int .i64 a0_2] 24 (0, 0)) ∧ W_.heap[kt]? = some (.cells #[.bool a1_0, .int .i64 a1_1, .int .i64 a1_2, .int .i64 a1_3, .int .i64 a1_4, .int .i64 a1_5] 27 (0, 0))) (ds := []) #[false, false, false, false, false, false, false, false, false, false, false, false, false, false] (by kernel_rfl) rfl rfl ⟨HS.out.get 5 rfl, HS.out.get 4 rfl⟩ (fun hHeld => ?_)
      refine take_ (i := 0) (N := some 42) (v := .agg #[.slice A0_0 l0_0.length c0_0, .int .i64 a0_1, .int .i64 a0_2]) (a' := ?_) #[true, false, false, false, false, false, false, false, false, false, false, false, false, false] rfl rfl (by kernel_rfl) (fun _ _ _ h => h) (Or.inl ⟨by rfl, fun w' hs => run_load_row_ rfl kq rfl 24 _ _ hs.1 Tryd.underlying24 rfl (by kernel_rfl)⟩) hHeld ?_ ?_
      rotate_left
      · simp only [Act.put, List.setIfInBounds_toArray, List.set_cons_zero, List.set_cons_succ, i64_w, i32_w]
        rfl
      refine pure_ (i := 2) (N := some 44) (v := .pointer (some ⟨kt, 0, none⟩)) (a' := ?_) #[true, false, true, false, false, false, false, false, false, false, false, false, false, false] rfl rfl (by kernel_rfl) (fun _ _ _ h => h) (Or.inl ⟨by rfl, fun w' => by go_simp⟩) ?_ ?_
      rotate_left
      · simp only [Act.put, List.setIfInBounds_toArray, List.set_cons_zero, List.set_cons_succ, i64_w, i32_w]
        rfl
      refine take_ (i := 3) (N := some 45) (v := .bool a1_0) (a' := ?_) #[true, false, true, true, false, false, false, false, false, false, false, false, false, false] rfl rfl (by kernel_rfl) (fun _ _ _ h => h) (Or.inl ⟨by rfl, fun w' hs => by have s2 : w'.cell? ⟨kt, 0, none⟩ = some (.bool a1_0) := (blk_cell hs.2 0).trans rfl; go_simp⟩) hHeld ?_ ?_
      rotate_left
      · simp only [Act.put, List.setIfInBounds_toArray, List.set_cons_zero, List.set_cons_succ, i64_w, i32_w]
        rfl
      all_goals (first
        | (refine three_ (l := #[true, false, true, true, false, false, false, false, false, false, false, false, false, false]) (i := 1) (j := 9) (k := 10) (Ni := some 43) (Nj := some 11) (Nk := some 12) #[true, true, true, true, false, false, false, false, false, false, false, false, false, false] #[true, false, true, true, false, false, false, false, false, true, false, false, false, false] #[true, false, true, true, false, false, false, false, false, false, true, false, false, false] rfl rfl rfl rfl rfl rfl (by kernel_rfl) (by decide) (by decide) (by decide) (fun K hK => ?_) (fun K hK => ?_) (fun K hK => ?_)
           refine goes_ Tryd.func10 (by kernel_rfl) rfl #[.agg #[.slice A0_0 l0_0.length c0_0, .int .i64 a0_1, .int .i64 a0_2]] (by rfl) rfl rfl (by (try simp only [List.map_toArray, List.map_cons, List.map_nil]); first | done | rfl) ?_
           refine Calls.mono (trefoillaw12_Own.calls A0_0 c0_0 l0_0 a0_1 a0_2 l0_0 a0_1 a0_2 _ ?_ ?_ HW.out) ?_
           · exact Kd.C_below HR.out HS.out.B
           · exact Hc.out
           rintro e_ W_ ⟨v_, rfl, hR_, hb⟩
           refine ⟨_, rfl, ?_⟩
           obtain ⟨Au, cu, rfl⟩ := Kd.R_slice hR_
           have HN := Lib.hid (HS.out.ring hb hR_)
           clear HS hb hR_
           have HS := Lib.hid HN.out
           clear HN
           refine hK.out _ _ ⟨HS.out.get 5 rfl, HS.out.get 4 rfl⟩ (fun hHeld => ?_)
           clear hK K
           refine norm_ (a' := ?_) ?_ ?_
           rotate_left
           · show Act.put _ (some 43) _ = _
             simp only [Act.put, List.setIfInBounds_toArray, List.set_cons_zero, List.set_cons_succ, i64_w, i32_w]
             rfl
           rotate_left
           refine box_step (cs := #[.slice none 0 0, .int .i64 0, .int .i64 0]) (t := 24) (by rfl) rfl (by first | (go_simp; done) | (go_simp; rfl)) ?_
           intro kp hE_ W_ hbox hb
           have HN := Lib.hid (HS.out.box hE_ hbox hb)
           clear HS hE_ hbox hb
           have HS := Lib.hid HN.out
           clear HN
           refine hK.out _ _ ⟨HS.out.get 6 rfl, HS.out.get 5 rfl⟩ (fun hHeld => ?_)
           clear hK K
           refine norm_ (a' := ?_) ?_ ?_
           rotate_left
           · show Act.put _ (some 11) _ = _
             simp only [Act.put, List.setIfInBounds_toArray, List.set_cons_zero, List.set_cons_succ, i64_w, i32_w]
             rfl
           rotate_left
           refine box_step (cs := #[.bool false, .int .i64 0, .int .i64 0, .int .i64 0, .int .i64 0, .int .i64 0]) (t := 27) (by rfl) rfl (by first | (go_simp; done) | (go_simp; rfl)) ?_
           intro kw hE_ W_ hbox hb
           have HN := Lib.hid (HS.out.box hE_ hbox hb)
           clear HS hE_ hbox hb
           have HS := Lib.hid HN.out
           clear HN
           refine hK.out _ _ ⟨HS.out.get 6 rfl, HS.out.get 5 rfl⟩ (fun hHeld => ?_)
           clear hK K
           refine norm_ (a' := ?_) ?_ ?_
           rotate_left
           · show Act.put _ (some 12) _ = _
             simp only [Act.put, List.setIfInBounds_toArray, List.set_cons_zero, List.set_cons_succ, i64_w, i32_w]
             rfl
           rotate_left)
        )
      all_goals (first
        | (refine three_ (l := #[true, true, true, true, false, false, false, false, false, false, false, false, false, false]) (i := 4) (j := 9) (k := 10) (Ni := some 46) (Nj := some 11) (Nk := some 12) #[true, true, true, true, true, false, false, false, false, false, false, false, false, false] #[true, true, true, true, false, false, false, false, false, true, false, false, false, false] #[true, true, true, true, false, false, false, false, false, false, true, false, false, false] rfl rfl rfl rfl rfl rfl (by kernel_rfl) (by decide) (by decide) (by decide) (fun K hK => ?_) (fun K hK => ?_) (fun K hK => ?_)
           refine goes_ Tryd.func12 (by kernel_rfl) rfl #[.agg #[.slice Au l0_0.length cu, .int .i64 a0_1, .int .i64 a0_2], .bool a1_0] (by rfl) rfl rfl (by (try simp only [List.map_toArray, List.map_cons, List.map_nil]); first | done | rfl) ?_
           refine Calls.mono (deque_Take.calls 50 (fun k => ∀ (i : Nat) (x : Nat × Array Value × Nat), ([(kv, #[.bool x3, .int .i64 x4, .int .i64 x5, .int .i64 x6, .int .i64 x7, .int .i64 x8], 27), (ky, #[(.slice Ay ly.length cy), .int .i64 x1, .int .i64 x2], 24), (ku, #[.bool x3, .int .i64 x4, .int .i64 x5, .int .i64 x6, .int .i64 x7, .int .i64 x8], 27), (kx, #[(.slice Ax ly.length cx), .int .i64 x1, .int .i64 x2], 24), (kt, #[.bool a1_0, .int .i64 a1_1, .int .i64 a1_2, .int .i64 a1_3, .int .i64 a1_4, .int .i64 a1_5], 27), (kq, #[.slice A0_0 l0_0.length c0_0, .int .i64 a0_1, .int .i64 a0_2], 24)] : List (Nat × Array Value × Nat))[i]? = some x → k ≠ x.1) _ _ l0_0 a0_1 a0_2 a1_0 lp p1 p2 p3 p4 p5 p6 p7 p8 p9 _ (HS.out.row_ 0 rfl) HP.out (TabOK.below HTab.out HS.out.B)) ?_
           rintro e_ W_ ⟨v_, rfl, hR_, hb⟩
           refine ⟨_, rfl, ?_⟩
           obtain ⟨Ap, cp, rfl⟩ := Kd.V_slice hR_
           have HN := Lib.hid (HS.out.ringV hb hR_)
           clear HS hb hR_
           have HS := Lib.hid HN.out
           clear HN
           refine hK.out _ _ ⟨HS.out.get 5 rfl, HS.out.get 4 rfl⟩ (fun hHeld => ?_)
           clear hK K
           refine norm_ (a' := ?_) ?_ ?_
           rotate_left
           · show Act.put _ (some 46) _ = _
             simp only [Act.put, List.setIfInBounds_toArray, List.set_cons_zero, List.set_cons_succ, i64_w, i32_w]
             rfl
           refine pure_ (i := 5) (N := some 41) (v := .tuple #[.agg #[(.slice Ap lp.length cp), .int .i64 p1, .int .i64 p2], .agg #[.bool p3, .int .i64 p4, .int .i64 p5, .int .i64 p6, .int .i64 p7, .int .i64 p8], .int .i64 p9]) (a' := ?_) #[true, true, true, true, true, true, false, false, false, false, false, false, false, false] rfl rfl (by kernel_rfl) (fun _ _ _ h => h) (Or.inl ⟨by rfl, fun w' => by go_simp⟩) ?_ ?_
           rotate_left
           · simp only [Act.put, List.setIfInBounds_toArray, List.set_cons_zero, List.set_cons_succ, i64_w, i32_w]
             rfl
           refine pure_ (i := 6) (N := some 47) (v := .agg #[(.slice Ap lp.length cp), .int .i64 p1, .int .i64 p2]) (a' := ?_) #[true, true, true, true, true, true, true, false, false, false, false, false, false, false] rfl rfl (by kernel_rfl) (fun _ _ _ h => h) (Or.inl ⟨by rfl, fun w' => by go_simp⟩) ?_ ?_
           rotate_left
           · simp only [Act.put, List.setIfInBounds_toArray, List.set_cons_zero, List.set_cons_succ, i64_w, i32_w]
             rfl
           refine pure_ (i := 7) (N := some 48) (v := .agg #[.bool p3, .int .i64 p4, .int .i64 p5, .int .i64 p6, .int .i64 p7, .int .i64 p8]) (a' := ?_) #[true, true, true, true, true, true, true, true, false, false, false, false, false, false] rfl rfl (by kernel_rfl) (fun _ _ _ h => h) (Or.inl ⟨by rfl, fun w' => by go_simp⟩) ?_ ?_
           rotate_left
           · simp only [Act.put, List.setIfInBounds_toArray, List.set_cons_zero, List.set_cons_succ, i64_w, i32_w]
             rfl
           refine pure_ (i := 8) (N := some 49) (v := .int .i64 p9) (a' := ?_) #[true, true, true, true, true, true, true, true, true, false, false, false, false, false] rfl rfl (by kernel_rfl) (fun _ _ _ h => h) (Or.inl ⟨by rfl, fun w' => by go_simp⟩) ?_ ?_
           rotate_left
           · simp only [Act.put, List.setIfInBounds_toArray, List.set_cons_zero, List.set_cons_succ, i64_w, i32_w]
             rfl
           rotate_left
           refine box_step (cs := #[.slice none 0 0, .int .i64 0, .int .i64 0]) (t := 24) (by rfl) rfl (by first | (go_simp; done) | (go_simp; rfl)) ?_
           intro kp hE_ W_ hbox hb
           have HN := Lib.hid (HS.out.box hE_ hbox hb)
           clear HS hE_ hbox hb
           have HS := Lib.hid HN.out
           clear HN
           refine hK.out _ _ ⟨HS.out.get 6 rfl, HS.out.get 5 rfl⟩ (fun hHeld => ?_)
           clear hK K
           refine norm_ (a' := ?_) ?_ ?_
           rotate_left
           · show Act.put _ (some 11) _ = _
             simp only [Act.put, List.setIfInBounds_toArray, List.set_cons_zero, List.set_cons_succ, i64_w, i32_w]
             rfl
           rotate_left
           refine box_step (cs := #[.bool false, .int .i64 0, .int .i64 0, .int .i64 0, .int .i64 0, .int .i64 0]) (t := 27) (by rfl) rfl (by first | (go_simp; done) | (go_simp; rfl)) ?_
           intro kw hE_ W_ hbox hb
           have HN := Lib.hid (HS.out.box hE_ hbox hb)
           clear HS hE_ hbox hb
           have HS := Lib.hid HN.out
           clear HN
           refine hK.out _ _ ⟨HS.out.get 6 rfl, HS.out.get 5 rfl⟩ (fun hHeld => ?_)
           clear hK K
           refine norm_ (a' := ?_) ?_ ?_
           rotate_left
           · show Act.put _ (some 12) _ = _
             simp only [Act.put, List.setIfInBounds_toArray, List.set_cons_zero, List.set_cons_succ, i64_w, i32_w]
             rfl
           rotate_left)
        | (refine two_ (l := #[true, false, true, true, false, false, false, false, false, true, false, false, false, false]) (i := 1) (j := 10) (Ni := some 43) (Nj := some 12) #[true, true, true, true, false, false, false, false, false, true, false, false, false, false] #[true, false, true, true, false, false, false, false, false, true, true, false, false, false] rfl rfl rfl rfl (by kernel_rfl) (by decide) (by decide) (fun K hK => ?_) (fun K hK => ?_)
           refine goes_ Tryd.func10 (by kernel_rfl) rfl #[.agg #[.slice A0_0 l0_0.length c0_0, .int .i64 a0_1, .int .i64 a0_2]] (by rfl) rfl rfl (by (try simp only [List.map_toArray, List.map_cons, List.map_nil]); first | done | rfl) ?_
           refine Calls.mono (trefoillaw12_Own.calls A0_0 c0_0 l0_0 a0_1 a0_2 l0_0 a0_1 a0_2 _ ?_ ?_ HW.out) ?_
           · exact Kd.C_below HR.out HS.out.B
           · exact Hc.out
           rintro e_ W_ ⟨v_, rfl, hR_, hb⟩
           refine ⟨_, rfl, ?_⟩
           obtain ⟨Au, cu, rfl⟩ := Kd.R_slice hR_
           have HN := Lib.hid (HS.out.ring hb hR_)
           clear HS hb hR_
           have HS := Lib.hid HN.out
           clear HN
           refine hK.out _ _ ⟨HS.out.get 6 rfl, HS.out.get 5 rfl⟩ (fun hHeld => ?_)
           clear hK K
           refine norm_ (a' := ?_) ?_ ?_
           rotate_left
           · show Act.put _ (some 43) _ = _
             simp only [Act.put, List.setIfInBounds_toArray, List.set_cons_zero, List.set_cons_succ, i64_w, i32_w]
             rfl
           rotate_left
           refine box_step (cs := #[.bool false, .int .i64 0, .int .i64 0, .int .i64 0, .int .i64 0, .int .i64 0]) (t := 27) (by rfl) rfl (by first | (go_simp; done) | (go_simp; rfl)) ?_
           intro kw hE_ W_ hbox hb
           have HN := Lib.hid (HS.out.box hE_ hbox hb)
           clear HS hE_ hbox hb
           have HS := Lib.hid HN.out
           clear HN
           refine hK.out _ _ ⟨HS.out.get 7 rfl, HS.out.get 6 rfl⟩ (fun hHeld => ?_)
           clear hK K
           refine norm_ (a' := ?_) ?_ ?_
           rotate_left
           · show Act.put _ (some 12) _ = _
             simp only [Act.put, List.setIfInBounds_toArray, List.set_cons_zero, List.set_cons_succ, i64_w, i32_w]
             rfl
           rotate_left)
        | (refine two_ (l := #[true, false, true, true, false, false, false, false, false, false, true, false, false, false]) (i := 1) (j := 9) (Ni := some 43) (Nj := some 11) #[true, true, true, true, false, false, false, false, false, false, true, false, false, false] #[true, false, true, true, false, false, false, false, false, true, true, false, false, false] rfl rfl rfl rfl (by kernel_rfl) (by decide) (by decide) (fun K hK => ?_) (fun K hK => ?_)
           refine goes_ Tryd.func10 (by kernel_rfl) rfl #[.agg #[.slice A0_0 l0_0.length c0_0, .int .i64 a0_1, .int .i64 a0_2]] (by rfl) rfl rfl (by (try simp only [List.map_toArray, List.map_cons, List.map_nil]); first | done | rfl) ?_
           refine Calls.mono (trefoillaw12_Own.calls A0_0 c0_0 l0_0 a0_1 a0_2 l0_0 a0_1 a0_2 _ ?_ ?_ HW.out) ?_
           · exact Kd.C_below HR.out HS.out.B
           · exact Hc.out
           rintro e_ W_ ⟨v_, rfl, hR_, hb⟩
           refine ⟨_, rfl, ?_⟩
           obtain ⟨Au, cu, rfl⟩ := Kd.R_slice hR_
           have HN := Lib.hid (HS.out.ring hb hR_)
           clear HS hb hR_
           have HS := Lib.hid HN.out
           clear HN
           refine hK.out _ _ ⟨HS.out.get 6 rfl, HS.out.get 5 rfl⟩ (fun hHeld => ?_)
           clear hK K
           refine norm_ (a' := ?_) ?_ ?_
           rotate_left
           · show Act.put _ (some 43) _ = _
             simp only [Act.put, List.setIfInBounds_toArray, List.set_cons_zero, List.set_cons_succ, i64_w, i32_w]
             rfl
           rotate_left
           refine box_step (cs := #[.slice none 0 0, .int .i64 0, .int .i64 0]) (t := 24) (by rfl) rfl (by first | (go_simp; done) | (go_simp; rfl)) ?_
           intro kp hE_ W_ hbox hb
           have HN := Lib.hid (HS.out.box hE_ hbox hb)
           clear HS hE_ hbox hb
           have HS := Lib.hid HN.out
           clear HN
           refine hK.out _ _ ⟨HS.out.get 7 rfl, HS.out.get 6 rfl⟩ (fun hHeld => ?_)
           clear hK K
           refine norm_ (a' := ?_) ?_ ?_
           rotate_left
           · show Act.put _ (some 11) _ = _
             simp only [Act.put, List.setIfInBounds_toArray, List.set_cons_zero, List.set_cons_succ, i64_w, i32_w]
             rfl
           have HN := Lib.hid HS.out.swap
           clear HS
           have HS := Lib.hid HN.out
           clear HN
           rotate_left)
        )
      all_goals (first
        | (refine two_ (l := #[true, true, true, true, true, true, true, true, true, false, false, false, false, false]) (i := 9) (j := 10) (Ni := some 11) (Nj := some 12) #[true, true, true, true, true, true, true, true, true, true, false, false, false, false] #[true, true, true, true, true, true, true, true, true, false, true, false, false, false] rfl rfl rfl rfl (by kernel_rfl) (by decide) (by decide) (fun K hK => ?_) (fun K hK => ?_)
           refine box_step (cs := #[.slice none 0 0, .int .i64 0, .int .i64 0]) (t := 24) (by rfl) rfl (by first | (go_simp; done) | (go_simp; rfl)) ?_
           intro kp hE_ W_ hbox hb
           have HN := Lib.hid (HS.out.box hE_ hbox hb)
           clear HS hE_ hbox hb
           have HS := Lib.hid HN.out
           clear HN
           refine hK.out _ _ ⟨HS.out.get 6 rfl, HS.out.get 5 rfl⟩ (fun hHeld => ?_)
           clear hK K
           refine norm_ (a' := ?_) ?_ ?_
           rotate_left
           · show Act.put _ (some 11) _ = _
             simp only [Act.put, List.setIfInBounds_toArray, List.set_cons_zero, List.set_cons_succ, i64_w, i32_w]
             rfl
           rotate_left
           refine box_step (cs := #[.bool false, .int .i64 0, .int .i64 0, .int .i64 0, .int .i64 0, .int .i64 0]) (t := 27) (by rfl) rfl (by first | (go_simp; done) | (go_simp; rfl)) ?_
           intro kw hE_ W_ hbox hb
           have HN := Lib.hid (HS.out.box hE_ hbox hb)
           clear HS hE_ hbox hb
           have HS := Lib.hid HN.out
           clear HN
           refine hK.out _ _ ⟨HS.out.get 6 rfl, HS.out.get 5 rfl⟩ (fun hHeld => ?_)
           clear hK K
           refine norm_ (a' := ?_) ?_ ?_
           rotate_left
           · show Act.put _ (some 12) _ = _
             simp only [Act.put, List.setIfInBounds_toArray, List.set_cons_zero, List.set_cons_succ, i64_w, i32_w]
             rfl
           rotate_left)
        | (refine two_ (l := #[true, true, true, true, false, false, false, false, false, true, false, false, false, false]) (i := 4) (j := 10) (Ni := some 46) (Nj := some 12) #[true, true, true, true, true, false, false, false, false, true, false, false, false, false] #[true, true, true, true, false, false, false, false, false, true, true, false, false, false] rfl rfl rfl rfl (by kernel_rfl) (by decide) (by decide) (fun K hK => ?_) (fun K hK => ?_)
           refine goes_ Tryd.func12 (by kernel_rfl) rfl #[.agg #[.slice Au l0_0.length cu, .int .i64 a0_1, .int .i64 a0_2], .bool a1_0] (by rfl) rfl rfl (by (try simp only [List.map_toArray, List.map_cons, List.map_nil]); first | done | rfl) ?_
           refine Calls.mono (deque_Take.calls 50 (fun k => ∀ (i : Nat) (x : Nat × Array Value × Nat), ([(kp, #[.slice none 0 0, .int .i64 0, .int .i64 0], 24), (kv, #[.bool x3, .int .i64 x4, .int .i64 x5, .int .i64 x6, .int .i64 x7, .int .i64 x8], 27), (ky, #[(.slice Ay ly.length cy), .int .i64 x1, .int .i64 x2], 24), (ku, #[.bool x3, .int .i64 x4, .int .i64 x5, .int .i64 x6, .int .i64 x7, .int .i64 x8], 27), (kx, #[(.slice Ax ly.length cx), .int .i64 x1, .int .i64 x2], 24), (kt, #[.bool a1_0, .int .i64 a1_1, .int .i64 a1_2, .int .i64 a1_3, .int .i64 a1_4, .int .i64 a1_5], 27), (kq, #[.slice A0_0 l0_0.length c0_0, .int .i64 a0_1, .int .i64 a0_2], 24)] : List (Nat × Array Value × Nat))[i]? = some x → k ≠ x.1) _ _ l0_0 a0_1 a0_2 a1_0 lp p1 p2 p3 p4 p5 p6 p7 p8 p9 _ (HS.out.row_ 0 rfl) HP.out (TabOK.below HTab.out HS.out.B)) ?_
           rintro e_ W_ ⟨v_, rfl, hR_, hb⟩
           refine ⟨_, rfl, ?_⟩
           obtain ⟨Ap, cp, rfl⟩ := Kd.V_slice hR_
           have HN := Lib.hid (HS.out.ringV hb hR_)
           clear HS hb hR_
           have HS := Lib.hid HN.out
           clear HN
           refine hK.out _ _ ⟨HS.out.get 6 rfl, HS.out.get 5 rfl⟩ (fun hHeld => ?_)
           clear hK K
           refine norm_ (a' := ?_) ?_ ?_
           rotate_left
           · show Act.put _ (some 46) _ = _
             simp only [Act.put, List.setIfInBounds_toArray, List.set_cons_zero, List.set_cons_succ, i64_w, i32_w]
             rfl
           refine pure_ (i := 5) (N := some 41) (v := .tuple #[.agg #[(.slice Ap lp.length cp), .int .i64 p1, .int .i64 p2], .agg #[.bool p3, .int .i64 p4, .int .i64 p5, .int .i64 p6, .int .i64 p7, .int .i64 p8], .int .i64 p9]) (a' := ?_) #[true, true, true, true, true, true, false, false, false, true, false, false, false, false] rfl rfl (by kernel_rfl) (fun _ _ _ h => h) (Or.inl ⟨by rfl, fun w' => by go_simp⟩) ?_ ?_
           rotate_left
           · simp only [Act.put, List.setIfInBounds_toArray, List.set_cons_zero, List.set_cons_succ, i64_w, i32_w]
             rfl
           refine pure_ (i := 6) (N := some 47) (v := .agg #[(.slice Ap lp.length cp), .int .i64 p1, .int .i64 p2]) (a' := ?_) #[true, true, true, true, true, true, true, false, false, true, false, false, false, false] rfl rfl (by kernel_rfl) (fun _ _ _ h => h) (Or.inl ⟨by rfl, fun w' => by go_simp⟩) ?_ ?_
           rotate_left
           · simp only [Act.put, List.setIfInBounds_toArray, List.set_cons_zero, List.set_cons_succ, i64_w, i32_w]
             rfl
           refine pure_ (i := 7) (N := some 48) (v := .agg #[.bool p3, .int .i64 p4, .int .i64 p5, .int .i64 p6, .int .i64 p7, .int .i64 p8]) (a' := ?_) #[true, true, true, true, true, true, true, true, false, true, false, false, false, false] rfl rfl (by kernel_rfl) (fun _ _ _ h => h) (Or.inl ⟨by rfl, fun w' => by go_simp⟩) ?_ ?_
           rotate_left
           · simp only [Act.put, List.setIfInBounds_toArray, List.set_cons_zero, List.set_cons_succ, i64_w, i32_w]
             rfl
           refine pure_ (i := 8) (N := some 49) (v := .int .i64 p9) (a' := ?_) #[true, true, true, true, true, true, true, true, true, true, false, false, false, false] rfl rfl (by kernel_rfl) (fun _ _ _ h => h) (Or.inl ⟨by rfl, fun w' => by go_simp⟩) ?_ ?_
           rotate_left
           · simp only [Act.put, List.setIfInBounds_toArray, List.set_cons_zero, List.set_cons_succ, i64_w, i32_w]
             rfl
           rotate_left
           refine box_step (cs := #[.bool false, .int .i64 0, .int .i64 0, .int .i64 0, .int .i64 0, .int .i64 0]) (t := 27) (by rfl) rfl (by first | (go_simp; done) | (go_simp; rfl)) ?_
           intro kw hE_ W_ hbox hb
           have HN := Lib.hid (HS.out.box hE_ hbox hb)
           clear HS hE_ hbox hb
           have HS := Lib.hid HN.out
           clear HN
           refine hK.out _ _ ⟨HS.out.get 7 rfl, HS.out.get 6 rfl⟩ (fun hHeld => ?_)
           clear hK K
           refine norm_ (a' := ?_) ?_ ?_
           rotate_left
           · show Act.put _ (some 12) _ = _
             simp only [Act.put, List.setIfInBounds_toArray, List.set_cons_zero, List.set_cons_succ, i64_w, i32_w]
             rfl
           rotate_left)
        | (refine two_ (l := #[true, true, true, true, false, false, false, false, false, false, true, false, false, false]) (i := 4) (j := 9) (Ni := some 46) (Nj := some 11) #[true, true, true, true, true, false, false, false, false, false, true, false, false, false] #[true, true, true, true, false, false, false, false, false, true, true, false, false, false] rfl rfl rfl rfl (by kernel_rfl) (by decide) (by decide) (fun K hK => ?_) (fun K hK => ?_)
           refine goes_ Tryd.func12 (by kernel_rfl) rfl #[.agg #[.slice Au l0_0.length cu, .int .i64 a0_1, .int .i64 a0_2], .bool a1_0] (by rfl) rfl rfl (by (try simp only [List.map_toArray, List.map_cons, List.map_nil]); first | done | rfl) ?_
           refine Calls.mono (deque_Take.calls 50 (fun k => ∀ (i : Nat) (x : Nat × Array Value × Nat), ([(kw, #[.bool false, .int .i64 0, .int .i64 0, .int .i64 0, .int .i64 0, .int .i64 0], 27), (kv, #[.bool x3, .int .i64 x4, .int .i64 x5, .int .i64 x6, .int .i64 x7, .int .i64 x8], 27), (ky, #[(.slice Ay ly.length cy), .int .i64 x1, .int .i64 x2], 24), (ku, #[.bool x3, .int .i64 x4, .int .i64 x5, .int .i64 x6, .int .i64 x7, .int .i64 x8], 27), (kx, #[(.slice Ax ly.length cx), .int .i64 x1, .int .i64 x2], 24), (kt, #[.bool a1_0, .int .i64 a1_1, .int .i64 a1_2, .int .i64 a1_3, .int .i64 a1_4, .int .i64 a1_5], 27), (kq, #[.slice A0_0 l0_0.length c0_0, .int .i64 a0_1, .int .i64 a0_2], 24)] : List (Nat × Array Value × Nat))[i]? = some x → k ≠ x.1) _ _ l0_0 a0_1 a0_2 a1_0 lp p1 p2 p3 p4 p5 p6 p7 p8 p9 _ (HS.out.row_ 0 rfl) HP.out (TabOK.below HTab.out HS.out.B)) ?_
           rintro e_ W_ ⟨v_, rfl, hR_, hb⟩
           refine ⟨_, rfl, ?_⟩
           obtain ⟨Ap, cp, rfl⟩ := Kd.V_slice hR_
           have HN := Lib.hid (HS.out.ringV hb hR_)
           clear HS hb hR_
           have HS := Lib.hid HN.out
           clear HN
           refine hK.out _ _ ⟨HS.out.get 6 rfl, HS.out.get 5 rfl⟩ (fun hHeld => ?_)
           clear hK K
           refine norm_ (a' := ?_) ?_ ?_
           rotate_left
           · show Act.put _ (some 46) _ = _
             simp only [Act.put, List.setIfInBounds_toArray, List.set_cons_zero, List.set_cons_succ, i64_w, i32_w]
             rfl
           refine pure_ (i := 5) (N := some 41) (v := .tuple #[.agg #[(.slice Ap lp.length cp), .int .i64 p1, .int .i64 p2], .agg #[.bool p3, .int .i64 p4, .int .i64 p5, .int .i64 p6, .int .i64 p7, .int .i64 p8], .int .i64 p9]) (a' := ?_) #[true, true, true, true, true, true, false, false, false, false, true, false, false, false] rfl rfl (by kernel_rfl) (fun _ _ _ h => h) (Or.inl ⟨by rfl, fun w' => by go_simp⟩) ?_ ?_
           rotate_left
           · simp only [Act.put, List.setIfInBounds_toArray, List.set_cons_zero, List.set_cons_succ, i64_w, i32_w]
             rfl
           refine pure_ (i := 6) (N := some 47) (v := .agg #[(.slice Ap lp.length cp), .int .i64 p1, .int .i64 p2]) (a' := ?_) #[true, true, true, true, true, true, true, false, false, false, true, false, false, false] rfl rfl (by kernel_rfl) (fun _ _ _ h => h) (Or.inl ⟨by rfl, fun w' => by go_simp⟩) ?_ ?_
           rotate_left
           · simp only [Act.put, List.setIfInBounds_toArray, List.set_cons_zero, List.set_cons_succ, i64_w, i32_w]
             rfl
           refine pure_ (i := 7) (N := some 48) (v := .agg #[.bool p3, .int .i64 p4, .int .i64 p5, .int .i64 p6, .int .i64 p7, .int .i64 p8]) (a' := ?_) #[true, true, true, true, true, true, true, true, false, false, true, false, false, false] rfl rfl (by kernel_rfl) (fun _ _ _ h => h) (Or.inl ⟨by rfl, fun w' => by go_simp⟩) ?_ ?_
           rotate_left
           · simp only [Act.put, List.setIfInBounds_toArray, List.set_cons_zero, List.set_cons_succ, i64_w, i32_w]
             rfl
           refine pure_ (i := 8) (N := some 49) (v := .int .i64 p9) (a' := ?_) #[true, true, true, true, true, true, true, true, true, false, true, false, false, false] rfl rfl (by kernel_rfl) (fun _ _ _ h => h) (Or.inl ⟨by rfl, fun w' => by go_simp⟩) ?_ ?_
           rotate_left
           · simp only [Act.put, List.setIfInBounds_toArray, List.set_cons_zero, List.set_cons_succ, i64_w, i32_w]
             rfl
           rotate_left
           refine box_step (cs := #[.slice none 0 0, .int .i64 0, .int .i64 0]) (t := 24) (by rfl) rfl (by first | (go_simp; done) | (go_simp; rfl)) ?_
           intro kp hE_ W_ hbox hb
           have HN := Lib.hid (HS.out.box hE_ hbox hb)
           clear HS hE_ hbox hb
           have HS := Lib.hid HN.out
           clear HN
           refine hK.out _ _ ⟨HS.out.get 7 rfl, HS.out.get 6 rfl⟩ (fun hHeld => ?_)
           clear hK K
           refine norm_ (a' := ?_) ?_ ?_
           rotate_left
           · show Act.put _ (some 11) _ = _
             simp only [Act.put, List.setIfInBounds_toArray, List.set_cons_zero, List.set_cons_succ, i64_w, i32_w]
             rfl
           have HN := Lib.hid HS.out.swap
           clear HS
           have HS := Lib.hid HN.out
           clear HN
           rotate_left)
        | (refine one_ (l := #[true, false, true, true, false, false, false, false, false, true, true, false, false, false]) (i := 1) (N := some 43) #[true, true, true, true, false, false, false, false, false, true, true, false, false, false] rfl rfl (by kernel_rfl) (by decide) (fun K hK => ?_)
           refine goes_ Tryd.func10 (by kernel_rfl) rfl #[.agg #[.slice A0_0 l0_0.length c0_0, .int .i64 a0_1, .int .i64 a0_2]] (by rfl) rfl rfl (by (try simp only [List.map_toArray, List.map_cons, List.map_nil]); first | done | rfl) ?_
           refine Calls.mono (trefoillaw12_Own.calls A0_0 c0_0 l0_0 a0_1 a0_2 l0_0 a0_1 a0_2 _ ?_ ?_ HW.out) ?_
           · exact Kd.C_below HR.out HS.out.B
           · exact Hc.out
           rintro e_ W_ ⟨v_, rfl, hR_, hb⟩
           refine ⟨_, rfl, ?_⟩
           obtain ⟨Au, cu, rfl⟩ := Kd.R_slice hR_
           have HN := Lib.hid (HS.out.ring hb hR_)
           clear HS hb hR_
           have HS := Lib.hid HN.out
           clear HN
           refine hK.out _ _ ⟨HS.out.get 7 rfl, HS.out.get 6 rfl⟩ (fun hHeld => ?_)
           clear hK K
           refine norm_ (a' := ?_) ?_ ?_
           rotate_left
           · show Act.put _ (some 43) _ = _
             simp only [Act.put, List.setIfInBounds_toArray, List.set_cons_zero, List.set_cons_succ, i64_w, i32_w]
             rfl)
        )
      all_goals (first
        | (refine one_ (l := #[true, true, true, true, true, true, true, true, true, true, false, false, false, false]) (i := 10) (N := some 12) #[true, true, true, true, true, true, true, true, true, true, true, false, false, false] rfl rfl (by kernel_rfl) (by decide) (fun K hK => ?_)
           refine box_step (cs := #[.bool false, .int .i64 0, .int .i64 0, .int .i64 0, .int .i64 0, .int .i64 0]) (t := 27) (by rfl) rfl (by first | (go_simp; done) | (go_simp; rfl)) ?_
           intro kw hE_ W_ hbox hb
           have HN := Lib.hid (HS.out.box hE_ hbox hb)
           clear HS hE_ hbox hb
           have HS := Lib.hid HN.out
           clear HN
           refine hK.out _ _ ⟨HS.out.get 7 rfl, HS.out.get 6 rfl⟩ (fun hHeld => ?_)
           clear hK K
           refine norm_ (a' := ?_) ?_ ?_
           rotate_left
           · show Act.put _ (some 12) _ = _
             simp only [Act.put, List.setIfInBounds_toArray, List.set_cons_zero, List.set_cons_succ, i64_w, i32_w]
             rfl)
        | (refine one_ (l := #[true, true, true, true, true, true, true, true, true, false, true, false, false, false]) (i := 9) (N := some 11) #[true, true, true, true, true, true, true, true, true, true, true, false, false, false] rfl rfl (by kernel_rfl) (by decide) (fun K hK => ?_)
           refine box_step (cs := #[.slice none 0 0, .int .i64 0, .int .i64 0]) (t := 24) (by rfl) rfl (by first | (go_simp; done) | (go_simp; rfl)) ?_
           intro kp hE_ W_ hbox hb
           have HN := Lib.hid (HS.out.box hE_ hbox hb)
           clear HS hE_ hbox hb
           have HS := Lib.hid HN.out
           clear HN
           refine hK.out _ _ ⟨HS.out.get 7 rfl, HS.out.get 6 rfl⟩ (fun hHeld => ?_)
           clear hK K
           refine norm_ (a' := ?_) ?_ ?_
           rotate_left
           · show Act.put _ (some 11) _ = _
             simp only [Act.put, List.setIfInBounds_toArray, List.set_cons_zero, List.set_cons_succ, i64_w, i32_w]
             rfl
           have HN := Lib.hid HS.out.swap
           clear HS
           have HS := Lib.hid HN.out
           clear HN)
        | (refine one_ (l := #[true, true, true, true, false, false, false, false, false, true, true, false, false, false]) (i := 4) (N := some 46) #[true, true, true, true, true, false, false, false, false, true, true, false, false, false] rfl rfl (by kernel_rfl) (by decide) (fun K hK => ?_)
           refine goes_ Tryd.func12 (by kernel_rfl) rfl #[.agg #[.slice Au l0_0.length cu, .int .i64 a0_1, .int .i64 a0_2], .bool a1_0] (by rfl) rfl rfl (by (try simp only [List.map_toArray, List.map_cons, List.map_nil]); first | done | rfl) ?_
           refine Calls.mono (deque_Take.calls 50 (fun k => ∀ (i : Nat) (x : Nat × Array Value × Nat), ([(kw, #[.bool false, .int .i64 0, .int .i64 0, .int .i64 0, .int .i64 0, .int .i64 0], 27), (kp, #[.slice none 0 0, .int .i64 0, .int .i64 0], 24), (kv, #[.bool x3, .int .i64 x4, .int .i64 x5, .int .i64 x6, .int .i64 x7, .int .i64 x8], 27), (ky, #[(.slice Ay ly.length cy), .int .i64 x1, .int .i64 x2], 24), (ku, #[.bool x3, .int .i64 x4, .int .i64 x5, .int .i64 x6, .int .i64 x7, .int .i64 x8], 27), (kx, #[(.slice Ax ly.length cx), .int .i64 x1, .int .i64 x2], 24), (kt, #[.bool a1_0, .int .i64 a1_1, .int .i64 a1_2, .int .i64 a1_3, .int .i64 a1_4, .int .i64 a1_5], 27), (kq, #[.slice A0_0 l0_0.length c0_0, .int .i64 a0_1, .int .i64 a0_2], 24)] : List (Nat × Array Value × Nat))[i]? = some x → k ≠ x.1) _ _ l0_0 a0_1 a0_2 a1_0 lp p1 p2 p3 p4 p5 p6 p7 p8 p9 _ (HS.out.row_ 0 rfl) HP.out (TabOK.below HTab.out HS.out.B)) ?_
           rintro e_ W_ ⟨v_, rfl, hR_, hb⟩
           refine ⟨_, rfl, ?_⟩
           obtain ⟨Ap, cp, rfl⟩ := Kd.V_slice hR_
           have HN := Lib.hid (HS.out.ringV hb hR_)
           clear HS hb hR_
           have HS := Lib.hid HN.out
           clear HN
           refine hK.out _ _ ⟨HS.out.get 7 rfl, HS.out.get 6 rfl⟩ (fun hHeld => ?_)
           clear hK K
           refine norm_ (a' := ?_) ?_ ?_
           rotate_left
           · show Act.put _ (some 46) _ = _
             simp only [Act.put, List.setIfInBounds_toArray, List.set_cons_zero, List.set_cons_succ, i64_w, i32_w]
             rfl
           refine pure_ (i := 5) (N := some 41) (v := .tuple #[.agg #[(.slice Ap lp.length cp), .int .i64 p1, .int .i64 p2], .agg #[.bool p3, .int .i64 p4, .int .i64 p5, .int .i64 p6, .int .i64 p7, .int .i64 p8], .int .i64 p9]) (a' := ?_) #[true, true, true, true, true, true, false, false, false, true, true, false, false, false] rfl rfl (by kernel_rfl) (fun _ _ _ h => h) (Or.inl ⟨by rfl, fun w' => by go_simp⟩) ?_ ?_
           rotate_left
           · simp only [Act.put, List.setIfInBounds_toArray, List.set_cons_zero, List.set_cons_succ, i64_w, i32_w]
             rfl
           refine pure_ (i := 6) (N := some 47) (v := .agg #[(.slice Ap lp.length cp), .int .i64 p1, .int .i64 p2]) (a' := ?_) #[true, true, true, true, true, true, true, false, false, true, true, false, false, false] rfl rfl (by kernel_rfl) (fun _ _ _ h => h) (Or.inl ⟨by rfl, fun w' => by go_simp⟩) ?_ ?_
           rotate_left
           · simp only [Act.put, List.setIfInBounds_toArray, List.set_cons_zero, List.set_cons_succ, i64_w, i32_w]
             rfl
           refine pure_ (i := 7) (N := some 48) (v := .agg #[.bool p3, .int .i64 p4, .int .i64 p5, .int .i64 p6, .int .i64 p7, .int .i64 p8]) (a' := ?_) #[true, true, true, true, true, true, true, true, false, true, true, false, false, false] rfl rfl (by kernel_rfl) (fun _ _ _ h => h) (Or.inl ⟨by rfl, fun w' => by go_simp⟩) ?_ ?_
           rotate_left
           · simp only [Act.put, List.setIfInBounds_toArray, List.set_cons_zero, List.set_cons_succ, i64_w, i32_w]
             rfl
           refine pure_ (i := 8) (N := some 49) (v := .int .i64 p9) (a' := ?_) #[true, true, true, true, true, true, true, true, true, true, true, false, false, false] rfl rfl (by kernel_rfl) (fun _ _ _ h => h) (Or.inl ⟨by rfl, fun w' => by go_simp⟩) ?_ ?_
           rotate_left
           · simp only [Act.put, List.setIfInBounds_toArray, List.set_cons_zero, List.set_cons_succ, i64_w, i32_w]
             rfl)
        )
      all_goals (
        refine one_ (i := 11) (N := none) #[true, true, true, true, true, true, true, true, true, true, true, true, false, false] rfl rfl (by kernel_rfl) (by decide) (fun K hK => ?_)
        refine skip_ (by rfl) rfl (run_store_row_ rfl kp rfl #[(.slice Ap lp.length cp), .int .i64 p1, .int .i64 p2] #[.slice none 0 0, .int .i64 0, .int .i64 0] 24 (HS.out.get 1 rfl) rfl (by kernel_rfl) rfl rfl) ?_
        have HN := Lib.hid (show St w [(kw, #[.bool false, .int .i64 0, .int .i64 0, .int .i64 0, .int .i64 0, .int .i64 0], 27), (kp, #[(.slice Ap lp.length cp), .int .i64 p1, .int .i64 p2], 24), (kv, #[.bool x3, .int .i64 x4, .int .i64 x5, .int .i64 x6, .int .i64 x7, .int .i64 x8], 27), (ky, #[(.slice Ay ly.length cy), .int .i64 x1, .int .i64 x2], 24), (ku, #[.bool x3, .int .i64 x4, .int .i64 x5, .int .i64 x6, .int .i64 x7, .int .i64 x8], 27), (kx, #[(.slice Ax ly.length cx), .int .i64 x1, .int .i64 x2], 24), (kt, #[.bool a1_0, .int .i64 a1_1, .int .i64 a1_2, .int .i64 a1_3, .int .i64 a1_4, .int .i64 a1_5], 27), (kq, #[.slice A0_0 l0_0.length c0_0, .int .i64 a0_1, .int .i64 a0_2], 24)] [((.slice Ap lp.length cp), lp), ((.slice Au l0_0.length cu), l0_0), ((.slice Ax ly.length cx), ly), ((.slice Ao l0_0.length co), l0_0)] _ from HS.out.row 1 rfl #[(.slice Ap lp.length cp), .int .i64 p1, .int .i64 p2])
        clear HS
        have HS := Lib.hid HN.out
        clear HN
        refine hK.out _ _ ⟨HS.out.get 7 rfl, HS.out.get 6 rfl⟩ (fun hHeld => ?_)
        clear hK K
        refine one_ (i := 12) (N := none) #[true, true, true, true, true, true, true, true, true, true, true, true, true, false] rfl rfl (by kernel_rfl) (by decide) (fun K hK => ?_)
        refine skip_ (by rfl) rfl (run_store_row_ rfl kw rfl #[.bool p3, .int .i64 p4, .int .i64 p5, .int .i64 p6, .int .i64 p7, .int .i64 p8] #[.bool false, .int .i64 0, .int .i64 0, .int .i64 0, .int .i64 0, .int .i64 0] 27 (HS.out.get 0 rfl) rfl (by kernel_rfl) rfl rfl) ?_
        have HN := Lib.hid (show St w [(kw, #[.bool p3, .int .i64 p4, .int .i64 p5, .int .i64 p6, .int .i64 p7, .int .i64 p8], 27), (kp, #[(.slice Ap lp.length cp), .int .i64 p1, .int .i64 p2], 24), (kv, #[.bool x3, .int .i64 x4, .int .i64 x5, .int .i64 x6, .int .i64 x7, .int .i64 x8], 27), (ky, #[(.slice Ay ly.length cy), .int .i64 x1, .int .i64 x2], 24), (ku, #[.bool x3, .int .i64 x4, .int .i64 x5, .int .i64 x6, .int .i64 x7, .int .i64 x8], 27), (kx, #[(.slice Ax ly.length cx), .int .i64 x1, .int .i64 x2], 24), (kt, #[.bool a1_0, .int .i64 a1_1, .int .i64 a1_2, .int .i64 a1_3, .int .i64 a1_4, .int .i64 a1_5], 27), (kq, #[.slice A0_0 l0_0.length c0_0, .int .i64 a0_1, .int .i64 a0_2], 24)] [((.slice Ap lp.length cp), lp), ((.slice Au l0_0.length cu), l0_0), ((.slice Ax ly.length cx), ly), ((.slice Ao l0_0.length co), l0_0)] _ from HS.out.row 0 rfl #[.bool p3, .int .i64 p4, .int .i64 p5, .int .i64 p6, .int .i64 p7, .int .i64 p8])
        clear HS
        have HS := Lib.hid HN.out
        clear HN
        refine hK.out _ _ ⟨HS.out.get 7 rfl, HS.out.get 6 rfl⟩ (fun hHeld => ?_)
        clear hK K
        refine pure_ (i := 13) (N := some 13) (v := .int .i64 p9) (a' := ?_) #[true, true, true, true, true, true, true, true, true, true, true, true, true, true] rfl rfl (by kernel_rfl) (fun _ _ _ h => h) (Or.inl ⟨by rfl, fun w' => by go_simp⟩) ?_ ?_
        rotate_left
        · simp only [Act.put, List.setIfInBounds_toArray, List.set_cons_zero, List.set_cons_succ, i64_w, i32_w]
          rfl
        refine done_ (by kernel_rfl) ?_
        try go_wp2
        go_meet
        exact ⟨kp, kw, Ap, Au, cp, cu, rfl, rfl, rfl, ⟨HS.out⟩⟩
        )
    case rest =>
      clear HS
      obtain ⟨kp, kw, Ap, Au, cp, cu, rfl, rfl, rfl, HS0⟩ := hcut
      have HS := Lib.hid HS0.out
      clear HS0
      obtain ⟨Aq, cq, lq, eq_, hlq, hlv, hCq⟩ := rv_slice (w := w) p9 HR.out Hc.out
      obtain rfl : lq = lp := hlv.trans Hlp.out.symm
      have EQ := Lib.hid eq_
      have HcQ := Lib.hid hlq
      have HCQ := Lib.hid hCq
      clear eq_ hlq hlv hCq
      have fkt0 : wc.cell? ⟨kt, 0, none⟩ = some (.bool a1_0) := (blk_cell (HS.out.get 6 rfl) 0).trans rfl
      go_wp2_with (first | ((with_reducible refine gate_dst (N := 51) rfl ?_); refine wpList_load_row rfl 24 (.tmp 2) rfl kq rfl 24 #[.slice A0_0 l0_0.length c0_0, .int .i64 a0_1, .int .i64 a0_2] (0, 0) _ (HS.out.get 7 rfl) Tryd.underlying24 rfl (by kernel_rfl) ?_) | (go_at_call 13; refine Calls.mono (ref_take.does A0_0 c0_0 l0_0 a0_1 a0_2 a1_0 50 p1 p2 p3 p4 p5 p6 p7 p8 p9 HQ.out _ ?_ ?_) ?_; exact Kd.C_below HR.out HS.out.B; exact Hc.out; rintro en_ W_ ⟨he_, hb⟩; rw [EQ.out] at he_; subst he_; clear fkt0; have HN := Lib.hid (HS.out.below hb); clear HS hb; have HS := Lib.hid HN.out; clear HN) | ((with_reducible refine gate_dst (N := 14) rfl ?_); refine box_event ?hg (N := 14) ?hd (cs := #[.slice none 0 0, .int .i64 0, .int .i64 0]) (t := 24) ?hr ?_; (case hd => rfl); (case hg => rfl); (case hr => first | (go_simp; done) | (go_simp; rfl)); intro kr hE_ W_ hbox hb; have HN := Lib.hid (show St w [(kr, #[.slice none 0 0, .int .i64 0, .int .i64 0], 24), (kw, #[.bool p3, .int .i64 p4, .int .i64 p5, .int .i64 p6, .int .i64 p7, .int .i64 p8], 27), (kp, #[(.slice Ap lq.length cp), .int .i64 p1, .int .i64 p2], 24), (kv, #[.bool x3, .int .i64 x4, .int .i64 x5, .int .i64 x6, .int .i64 x7, .int .i64 x8], 27), (ky, #[(.slice Ay ly.length cy), .int .i64 x1, .int .i64 x2], 24), (ku, #[.bool x3, .int .i64 x4, .int .i64 x5, .int .i64 x6, .int .i64 x7, .int .i64 x8], 27), (kx, #[(.slice Ax ly.length cx), .int .i64 x1, .int .i64 x2], 24), (kt, #[.bool a1_0, .int .i64 a1_1, .int .i64 a1_2, .int .i64 a1_3, .int .i64 a1_4, .int .i64 a1_5], 27), (kq, #[.slice A0_0 l0_0.length c0_0, .int .i64 a0_1, .int .i64 a0_2], 24)] [((.slice Ap lq.length cp), lq), ((.slice Au l0_0.length cu), l0_0), ((.slice Ax ly.length cx), ly), ((.slice Ao l0_0.length co), l0_0)] _ from HS.out.box hE_ hbox hb); clear HS hE_ hbox hb; have HS := Lib.hid HN.out; clear HN) | ((with_reducible refine gate_dst (N := 15) rfl ?_); refine box_event ?hg (N := 15) ?hd (cs := #[.bool false, .int .i64 0, .int .i64 0, .int .i64 0, .int .i64 0, .int .i64 0]) (t := 27) ?hr ?_; (case hd => rfl); (case hg => rfl); (case hr => first | (go_simp; done) | (go_simp; rfl)); intro kz hE_ W_ hbox hb; have HN := Lib.hid (show St w [(kz, #[.bool false, .int .i64 0, .int .i64 0, .int .i64 0, .int .i64 0, .int .i64 0], 27), (kr, #[.slice none 0 0, .int .i64 0, .int .i64 0], 24), (kw, #[.bool p3, .int .i64 p4, .int .i64 p5, .int .i64 p6, .int .i64 p7, .int .i64 p8], 27), (kp, #[(.slice Ap lq.length cp), .int .i64 p1, .int .i64 p2], 24), (kv, #[.bool x3, .int .i64 x4, .int .i64 x5, .int .i64 x6, .int .i64 x7, .int .i64 x8], 27), (ky, #[(.slice Ay ly.length cy), .int .i64 x1, .int .i64 x2], 24), (ku, #[.bool x3, .int .i64 x4, .int .i64 x5, .int .i64 x6, .int .i64 x7, .int .i64 x8], 27), (kx, #[(.slice Ax ly.length cx), .int .i64 x1, .int .i64 x2], 24), (kt, #[.bool a1_0, .int .i64 a1_1, .int .i64 a1_2, .int .i64 a1_3, .int .i64 a1_4, .int .i64 a1_5], 27), (kq, #[.slice A0_0 l0_0.length c0_0, .int .i64 a0_1, .int .i64 a0_2], 24)] [((.slice Ap lq.length cp), lq), ((.slice Au l0_0.length cu), l0_0), ((.slice Ax ly.length cx), ly), ((.slice Ao l0_0.length co), l0_0)] _ from HS.out.box hE_ hbox hb); clear HS hE_ hbox hb; have HS := Lib.hid HN.out; clear HN) | ((with_reducible refine gate_store (t := 24) (p := 14) (v := .tmp 55) ?hgs ?_); (case hgs => rfl); refine wpList_store_row rfl rfl 24 14 (.tmp 55) rfl kr rfl #[(.slice Aq lq.length cq), .int .i64 p1, .int .i64 p2] #[.slice none 0 0, .int .i64 0, .int .i64 0] 24 (HS.out.get 1 rfl) (by rfl) (by kernel_rfl) rfl (by rfl) (fun W_ => St w [(kz, #[.bool false, .int .i64 0, .int .i64 0, .int .i64 0, .int .i64 0, .int .i64 0], 27), (kr, #[(.slice Aq lq.length cq), .int .i64 p1, .int .i64 p2], 24), (kw, #[.bool p3, .int .i64 p4, .int .i64 p5, .int .i64 p6, .int .i64 p7, .int .i64 p8], 27), (kp, #[(.slice Ap lq.length cp), .int .i64 p1, .int .i64 p2], 24), (kv, #[.bool x3, .int .i64 x4, .int .i64 x5, .int .i64 x6, .int .i64 x7, .int .i64 x8], 27), (ky, #[(.slice Ay ly.length cy), .int .i64 x1, .int .i64 x2], 24), (ku, #[.bool x3, .int .i64 x4, .int .i64 x5, .int .i64 x6, .int .i64 x7, .int .i64 x8], 27), (kx, #[(.slice Ax ly.length cx), .int .i64 x1, .int .i64 x2], 24), (kt, #[.bool a1_0, .int .i64 a1_1, .int .i64 a1_2, .int .i64 a1_3, .int .i64 a1_4, .int .i64 a1_5], 27), (kq, #[.slice A0_0 l0_0.length c0_0, .int .i64 a0_1, .int .i64 a0_2], 24)] [((.slice Ap lq.length cp), lq), ((.slice Au l0_0.length cu), l0_0), ((.slice Ax ly.length cx), ly), ((.slice Ao l0_0.length co), l0_0)] W_) (HS.out.row 1 rfl #[(.slice Aq lq.length cq), .int .i64 p1, .int .i64 p2]) ?_; rintro W_ he_; clear HS; have HS := Lib.hid he_; clear he_) | ((with_reducible refine gate_store (t := 27) (p := 15) (v := .tmp 56) ?hgs ?_); (case hgs => rfl); refine wpList_store_row rfl rfl 27 15 (.tmp 56) rfl kz rfl #[.bool p3, .int .i64 p4, .int .i64 p5, .int .i64 p6, .int .i64 p7, .int .i64 p8] #[.bool false, .int .i64 0, .int .i64 0, .int .i64 0, .int .i64 0, .int .i64 0] 27 (HS.out.get 0 rfl) (by rfl) (by kernel_rfl) rfl (by rfl) (fun W_ => St w [(kz, #[.bool p3, .int .i64 p4, .int .i64 p5, .int .i64 p6, .int .i64 p7, .int .i64 p8], 27), (kr, #[(.slice Aq lq.length cq), .int .i64 p1, .int .i64 p2], 24), (kw, #[.bool p3, .int .i64 p4, .int .i64 p5, .int .i64 p6, .int .i64 p7, .int .i64 p8], 27), (kp, #[(.slice Ap lq.length cp), .int .i64 p1, .int .i64 p2], 24), (kv, #[.bool x3, .int .i64 x4, .int .i64 x5, .int .i64 x6, .int .i64 x7, .int .i64 x8], 27), (ky, #[(.slice Ay ly.length cy), .int .i64 x1, .int .i64 x2], 24), (ku, #[.bool x3, .int .i64 x4, .int .i64 x5, .int .i64 x6, .int .i64 x7, .int .i64 x8], 27), (kx, #[(.slice Ax ly.length cx), .int .i64 x1, .int .i64 x2], 24), (kt, #[.bool a1_0, .int .i64 a1_1, .int .i64 a1_2, .int .i64 a1_3, .int .i64 a1_4, .int .i64 a1_5], 27), (kq, #[.slice A0_0 l0_0.length c0_0, .int .i64 a0_1, .int .i64 a0_2], 24)] [((.slice Ap lq.length cp), lq), ((.slice Au l0_0.length cu), l0_0), ((.slice Ax ly.length cx), ly), ((.slice Ao l0_0.length co), l0_0)] W_) (HS.out.row 0 rfl #[.bool p3, .int .i64 p4, .int .i64 p5, .int .i64 p6, .int .i64 p7, .int .i64 p8]) ?_; rintro W_ he_; clear HS; have HS := Lib.hid he_; clear he_) | ((with_reducible refine gate_dst (N := 58) rfl ?_); refine wpList_load_row rfl 24 (.tmp 5) rfl kx rfl 24 #[(.slice Ax ly.length cx), .int .i64 x1, .int .i64 x2] (0, 0) _ (HS.out.get 7 rfl) Tryd.underlying24 rfl (by kernel_rfl) ?_) | ((with_reducible refine gate_dst (N := 59) rfl ?_); refine wpList_load_row rfl 24 (.tmp 8) rfl ky rfl 24 #[(.slice Ay ly.length cy), .int .i64 x1, .int .i64 x2] (0, 0) _ (HS.out.get 5 rfl) Tryd.underlying24 rfl (by kernel_rfl) ?_) | (go_at_call 14; (with_reducible refine at_args_ (#[.agg #[(.slice Ax ly.length cx), .int .i64 x1, .int .i64 x2], .agg #[(.slice Ay ly.length cy), .int .i64 x1, .int .i64 x2]]) rfl ?_); refine Calls.mono (trefoilref12_Same.calls 140 _ _ ly x1 x2 _ _ ly x1 x2 true _ (HS.out.reads 2 rfl).2.2 (HS.out.reads 2 rfl).2.1 ?_ HcY.out HSx.out) ?_; exact Kd.C_below HCY.out HS.out.B; rintro _ W_ ⟨rfl, hb⟩; have HN := Lib.hid (HS.out.below hb); clear HS hb; have HS := Lib.hid HN.out; clear HN) | ((with_reducible refine gate_dst (N := 62) rfl ?_); refine gate_guard (by rfl) ?_; dsimp only; refine wpList_load_row rfl 27 (.tmp 6) rfl ku rfl 27 #[.bool x3, .int .i64 x4, .int .i64 x5, .int .i64 x6, .int .i64 x7, .int .i64 x8] (0, 0) _ (HS.out.get 6 rfl) Tryd.underlying27 rfl (by kernel_rfl) ?_) | ((with_reducible refine gate_dst (N := 63) rfl ?_); refine gate_guard (by rfl) ?_; dsimp only; refine wpList_load_row rfl 27 (.tmp 9) rfl kv rfl 27 #[.bool x3, .int .i64 x4, .int .i64 x5, .int .i64 x6, .int .i64 x7, .int .i64 x8] (0, 0) _ (HS.out.get 4 rfl) Tryd.underlying27 rfl (by kernel_rfl) ?_) | ((with_reducible refine gate_dst (N := 72) rfl ?_); refine gate_guard (by rfl) ?_; dsimp only; refine wpList_load_row rfl 24 (.tmp 11) rfl kp rfl 24 #[(.slice Ap lq.length cp), .int .i64 p1, .int .i64 p2] (0, 0) _ (HS.out.get 3 rfl) Tryd.underlying24 rfl (by kernel_rfl) ?_) | ((with_reducible refine gate_dst (N := 73) rfl ?_); refine gate_guard (by rfl) ?_; dsimp only; refine wpList_load_row rfl 24 (.tmp 14) rfl kr rfl 24 #[(.slice Aq lq.length cq), .int .i64 p1, .int .i64 p2] (0, 0) _ (HS.out.get 1 rfl) Tryd.underlying24 rfl (by kernel_rfl) ?_) | (go_at_call 14; (with_reducible refine at_args_ (#[.agg #[(.slice Ap lq.length cp), .int .i64 p1, .int .i64 p2], .agg #[(.slice Aq lq.length cq), .int .i64 p1, .int .i64 p2]]) rfl ?_); refine Calls.mono (trefoilref12_Same.calls 140 _ _ lq p1 p2 _ _ lq p1 p2 true _ (HS.out.reads 0 rfl).2.2 (HS.out.reads 0 rfl).2.1 ?_ HcQ.out HSp.out) ?_; exact Kd.C_below HCQ.out HS.out.B; rintro _ W_ ⟨rfl, hb⟩; have HN := Lib.hid (HS.out.below hb); clear HS hb; have HS := Lib.hid HN.out; clear HN) | ((with_reducible refine gate_dst (N := 77) rfl ?_); refine gate_guard (by rfl) ?_; dsimp only; refine wpList_load_row rfl 27 (.tmp 12) rfl kw rfl 27 #[.bool p3, .int .i64 p4, .int .i64 p5, .int .i64 p6, .int .i64 p7, .int .i64 p8] (0, 0) _ (HS.out.get 2 rfl) Tryd.underlying27 rfl (by kernel_rfl) ?_) | ((with_reducible refine gate_dst (N := 78) rfl ?_); refine gate_guard (by rfl) ?_; dsimp only; refine wpList_load_row rfl 27 (.tmp 15) rfl kz rfl 27 #[.bool p3, .int .i64 p4, .int .i64 p5, .int .i64 p6, .int .i64 p7, .int .i64 p8] (0, 0) _ (HS.out.get 0 rfl) Tryd.underlying27 rfl (by kernel_rfl) ?_))
      go_ret
      exact ⟨rfl, HS.out.B⟩
end Go.Proofs.YtdmgigicbppjkaaDoor.Q
