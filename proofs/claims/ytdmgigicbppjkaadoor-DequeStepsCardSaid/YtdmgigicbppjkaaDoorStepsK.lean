/- All steps of the document's: its loop. -/
import Derived.Test.YtdmgigicbppjkaaDoorStepsS
set_option linter.unusedVariables false
set_option linter.unusedSimpArgs false
namespace Go.Proofs.YtdmgigicbppjkaaDoor.Q
open Go.RowKit Go.Proofs.YtdmgigicbppjkaaDoorW.PrintWords Go.Proofs.YtdmgigicbppjkaaDoorW.PrintLast Go.Proofs.YtdmgigicbppjkaaDoorW.PrintMore
attribute [local go_sem] max2_int min2_int max_two min_two max_three min_three max_four min_four   -- for this text's walks alone
set_option maxHeartbeats 8000000 in
theorem ref_take.does (A0_0 : Option Addr) (c0_0 : Nat) (l0_0 : List Int) (a0_1 a0_2 : Int) (a1 : Bool) (K : Nat) (o1 o2 : Int) (o3 : Bool) (o4 o5 o6 o7 o8 o9 : Int) (hr : ref_take.r l0_0 K a0_1 a0_2 a1 = some (o1, o2, o3, o4, o5, o6, o7, o8, o9)) (w : World) (hr0_0 : Kd.C (Kd.int .i64) w A0_0 l0_0.length l0_0) (hc0_0 : l0_0.length ≤ c0_0) :
    Calls Tryd.prog 13 #[.agg #[.slice A0_0 l0_0.length c0_0, .int .i64 a0_1, .int .i64 a0_2], .bool a1] w fun en w' => en = .returned (.tuple #[.agg #[rv A0_0 c0_0 l0_0 o9, .int .i64 o1, .int .i64 o2], .agg #[.bool o3, .int .i64 o4, .int .i64 o5, .int .i64 o6, .int .i64 o7, .int .i64 o8], .int .i64 o9]) ∧ Below w.heap.size w w' := by
  have HR := Lib.hid hr0_0
  have Hc := Lib.hid hc0_0
  have H' := Aside0.mk hr
  clear hr0_0 hc0_0 hr
  have HS := Lib.hid (St.start w)
  go_enter Tryd.func13, Tryd.ntmps13
  go_wp2_with (first | ((with_reducible refine gate_dst (N := 2) rfl ?_); refine box_event ?hg (N := 2) ?hd (cs := #[.slice A0_0 l0_0.length c0_0, .int .i64 a0_1, .int .i64 a0_2]) (t := 24) ?hr ?_; (case hd => rfl); (case hg => rfl); (case hr => first | (go_simp; done) | (go_simp; rfl)); intro kq hE_ w1 hbox hb; have HN := Lib.hid (show St w [(kq, #[.slice A0_0 l0_0.length c0_0, .int .i64 a0_1, .int .i64 a0_2], 24)] [] w1 from HS.out.box hE_ hbox hb); clear HS hE_ hbox hb; have HS := Lib.hid HN.out; clear HN) | ((with_reducible refine gate_dst (N := 4) rfl ?_); refine box_event ?hg (N := 4) ?hd (cs := #[.slice none 0 0, .int .i64 0, .int .i64 0]) (t := 24) ?hr ?_; (case hd => rfl); (case hg => rfl); (case hr => first | (go_simp; done) | (go_simp; rfl)); intro kc hE_ w2 hbox hb; have HN := Lib.hid (show St w [(kc, #[.slice none 0 0, .int .i64 0, .int .i64 0], 24), (kq, #[.slice A0_0 l0_0.length c0_0, .int .i64 a0_1, .int .i64 a0_2], 24)] [] w2 from HS.out.box hE_ hbox hb); clear HS hE_ hbox hb; have HS := Lib.hid HN.out; clear HN) | ((with_reducible refine gate_dst (N := 5) rfl ?_); refine box_event ?hg (N := 5) ?hd (cs := #[.bool false, .int .i64 0, .int .i64 0, .int .i64 0, .int .i64 0, .int .i64 0]) (t := 27) ?hr ?_; (case hd => rfl); (case hg => rfl); (case hr => first | (go_simp; done) | (go_simp; rfl)); intro kd hE_ w3 hbox hb; have HN := Lib.hid (show St w [(kd, #[.bool false, .int .i64 0, .int .i64 0, .int .i64 0, .int .i64 0, .int .i64 0], 27), (kc, #[.slice none 0 0, .int .i64 0, .int .i64 0], 24), (kq, #[.slice A0_0 l0_0.length c0_0, .int .i64 a0_1, .int .i64 a0_2], 24)] [] w3 from HS.out.box hE_ hbox hb); clear HS hE_ hbox hb; have HS := Lib.hid HN.out; clear HN) | ((with_reducible refine gate_dst (N := 7) rfl ?_); refine box_event ?hg (N := 7) ?hd (cs := #[.bool false, .int .i64 0, .int .i64 0, .int .i64 0, .int .i64 0, .int .i64 0]) (t := 27) ?hr ?_; (case hd => rfl); (case hg => rfl); (case hr => first | (go_simp; done) | (go_simp; rfl)); intro kt hE_ w4 hbox hb; have HN := Lib.hid (show St w [(kt, #[.bool false, .int .i64 0, .int .i64 0, .int .i64 0, .int .i64 0, .int .i64 0], 27), (kd, #[.bool false, .int .i64 0, .int .i64 0, .int .i64 0, .int .i64 0, .int .i64 0], 27), (kc, #[.slice none 0 0, .int .i64 0, .int .i64 0], 24), (kq, #[.slice A0_0 l0_0.length c0_0, .int .i64 a0_1, .int .i64 a0_2], 24)] [] w4 from HS.out.box hE_ hbox hb); clear HS hE_ hbox hb; have HS := Lib.hid HN.out; clear HN) | ((with_reducible refine gate_store (t := 27) (p := 7) (v := .tmp 13) ?hgs ?_); (case hgs => rfl); refine wpList_store_row rfl rfl 27 7 (.tmp 13) rfl kt rfl #[.bool a1, .int .i64 (0), .int .i64 (0), .int .i64 (0), .int .i64 (0), .int .i64 (0)] #[.bool false, .int .i64 0, .int .i64 0, .int .i64 0, .int .i64 0, .int .i64 0] 27 (HS.out.get 0 rfl) (by rfl) (by kernel_rfl) rfl (by rfl) (fun W_ => St w [(kt, #[.bool a1, .int .i64 (0), .int .i64 (0), .int .i64 (0), .int .i64 (0), .int .i64 (0)], 27), (kd, #[.bool false, .int .i64 0, .int .i64 0, .int .i64 0, .int .i64 0, .int .i64 0], 27), (kc, #[.slice none 0 0, .int .i64 0, .int .i64 0], 24), (kq, #[.slice A0_0 l0_0.length c0_0, .int .i64 a0_1, .int .i64 a0_2], 24)] [] W_) (HS.out.row 0 rfl #[.bool a1, .int .i64 (0), .int .i64 (0), .int .i64 (0), .int .i64 (0), .int .i64 (0)]) ?_; rintro w5 he_; clear HS; have HS := Lib.hid he_; clear he_))
  go_loopg [8] K (fun gk v8 w' => ∃ (i_ tp_ bt_ : Int) (s_ : Bool) (k_ t_ b_ n_ e_ : Int), v8 = .int .i64 i_ ∧ Aside0 (ref_take.l0 l0_0 gk i_ tp_ bt_ s_ k_ t_ b_ n_ e_ = some (o1, o2, o3, o4, o5, o6, o7, o8, o9)) ∧ Aside0 (gk ≤ K) ∧ Aside0 (St w [(kt, #[.bool s_, .int .i64 (k_), .int .i64 (t_), .int .i64 (b_), .int .i64 (n_), .int .i64 (e_)], 27), (kd, #[.bool false, .int .i64 0, .int .i64 0, .int .i64 0, .int .i64 0, .int .i64 0], 27), (kc, #[.slice none 0 0, .int .i64 0, .int .i64 0], 24), (kq, #[.slice A0_0 l0_0.length c0_0, .int .i64 (tp_), .int .i64 (bt_)], 24)] [] w'))
  case atStart => exact ⟨0, a0_1, a0_2, a1, 0, 0, 0, 0, 0, rfl, H', ⟨Nat.le_refl _⟩, ⟨HS.out⟩⟩
  case round =>
    clear H' HS
    obtain ⟨i_, tp_, bt_, s_, k_, t_, b_, n_, e_, rfl, HA, HK1, HS0⟩ := hrel
    have HS := Lib.hid HS0.out
    clear HS0
    cases gk with
    | zero => exact absurd HA.out (by simp [ref_take.l0])
    | succ k1 =>
      have H := HA.out
      clear HA
      simp only [ref_take.l0] at H
      by_cases c6 : i_ < 6
      · rw [if_pos c6] at H
        have c6b : decide (i_ < 6) = true := decide_eq_true c6
        clear c6
        by_cases ce : e_ = 0
        · rw [if_pos ce] at H
          have ceb : (e_ == 0) = true := by simp [ce]
          clear ce
          obtain ⟨⟨x1, x2, x3, x4, x5, x6, x7, x8, x9⟩, hx, H⟩ := Option.bind_eq_some_iff.mp H
          have HX := Lib.hid hx
          clear hx
          have fkt0 : wr.cell? ⟨kt, 0, none⟩ = some (.bool s_) := (blk_cell (HS.out.get 0 rfl) 0).trans rfl
          have fkt1 : wr.cell? ⟨kt, 1, none⟩ = some (.int .i64 k_) := (blk_cell (HS.out.get 0 rfl) 1).trans rfl
          have fkt2 : wr.cell? ⟨kt, 2, none⟩ = some (.int .i64 t_) := (blk_cell (HS.out.get 0 rfl) 2).trans rfl
          have fkt3 : wr.cell? ⟨kt, 3, none⟩ = some (.int .i64 b_) := (blk_cell (HS.out.get 0 rfl) 3).trans rfl
          have fkt4 : wr.cell? ⟨kt, 4, none⟩ = some (.int .i64 n_) := (blk_cell (HS.out.get 0 rfl) 4).trans rfl
          have fkt5 : wr.cell? ⟨kt, 5, none⟩ = some (.int .i64 e_) := (blk_cell (HS.out.get 0 rfl) 5).trans rfl
          have fkq0 : wr.cell? ⟨kq, 0, none⟩ = some (.slice A0_0 l0_0.length c0_0) := (blk_cell (HS.out.get 3 rfl) 0).trans rfl
          have fkq1 : wr.cell? ⟨kq, 1, none⟩ = some (.int .i64 tp_) := (blk_cell (HS.out.get 3 rfl) 1).trans rfl
          have fkq2 : wr.cell? ⟨kq, 2, none⟩ = some (.int .i64 bt_) := (blk_cell (HS.out.get 3 rfl) 2).trans rfl
          by_cases c9 : x9 = 0
          · rw [if_pos c9] at H
            have c9b : (x9 != 0) = false := by simp [c9]
            have erv : rv A0_0 c0_0 l0_0 x9 = .slice A0_0 l0_0.length c0_0 := if_pos c9
            go_wp2_with (first | (go_at_call 11; refine Calls.mono (ref_step.does A0_0 c0_0 l0_0 tp_ bt_ s_ k_ t_ b_ n_ e_ x1 x2 x3 x4 x5 x6 x7 x8 x9 HX.out _ ?_ ?_) ?_; exact Kd.C_below HR.out HS.out.B; exact Hc.out; rintro en_ w6 ⟨he_, hb⟩; rw [erv] at he_; subst he_; have HN := Lib.hid (show St w [(kt, #[.bool s_, .int .i64 (k_), .int .i64 (t_), .int .i64 (b_), .int .i64 (n_), .int .i64 (e_)], 27), (kd, #[.bool false, .int .i64 0, .int .i64 0, .int .i64 0, .int .i64 0, .int .i64 0], 27), (kc, #[.slice none 0 0, .int .i64 0, .int .i64 0], 24), (kq, #[.slice A0_0 l0_0.length c0_0, .int .i64 (tp_), .int .i64 (bt_)], 24)] [] w6 from HS.out.below hb); clear HS hb; have HS := Lib.hid HN.out; clear HN; clear fkt0 fkt1 fkt2 fkt3 fkt4 fkt5 fkq0 fkq1 fkq2) | ((with_reducible refine gate_dst (N := 9) rfl ?_); refine box_event ?hg (N := 9) ?hd (cs := #[.slice none 0 0, .int .i64 0, .int .i64 0]) (t := 24) ?hr ?_; (case hd => rfl); (case hg => rfl); (case hr => first | (go_simp; done) | (go_simp; rfl)); intro kp hE_ w7 hbox hb; have HN := Lib.hid (show St w [(kp, #[.slice none 0 0, .int .i64 0, .int .i64 0], 24), (kt, #[.bool s_, .int .i64 (k_), .int .i64 (t_), .int .i64 (b_), .int .i64 (n_), .int .i64 (e_)], 27), (kd, #[.bool false, .int .i64 0, .int .i64 0, .int .i64 0, .int .i64 0, .int .i64 0], 27), (kc, #[.slice none 0 0, .int .i64 0, .int .i64 0], 24), (kq, #[.slice A0_0 l0_0.length c0_0, .int .i64 (tp_), .int .i64 (bt_)], 24)] [] w7 from HS.out.box hE_ hbox hb); clear HS hE_ hbox hb; have HS := Lib.hid HN.out; clear HN) | ((with_reducible refine gate_dst (N := 10) rfl ?_); refine box_event ?hg (N := 10) ?hd (cs := #[.bool false, .int .i64 0, .int .i64 0, .int .i64 0, .int .i64 0, .int .i64 0]) (t := 27) ?hr ?_; (case hd => rfl); (case hg => rfl); (case hr => first | (go_simp; done) | (go_simp; rfl)); intro ku hE_ w8 hbox hb; have HN := Lib.hid (show St w [(ku, #[.bool false, .int .i64 0, .int .i64 0, .int .i64 0, .int .i64 0, .int .i64 0], 27), (kp, #[.slice none 0 0, .int .i64 0, .int .i64 0], 24), (kt, #[.bool s_, .int .i64 (k_), .int .i64 (t_), .int .i64 (b_), .int .i64 (n_), .int .i64 (e_)], 27), (kd, #[.bool false, .int .i64 0, .int .i64 0, .int .i64 0, .int .i64 0, .int .i64 0], 27), (kc, #[.slice none 0 0, .int .i64 0, .int .i64 0], 24), (kq, #[.slice A0_0 l0_0.length c0_0, .int .i64 (tp_), .int .i64 (bt_)], 24)] [] w8 from HS.out.box hE_ hbox hb); clear HS hE_ hbox hb; have HS := Lib.hid HN.out; clear HN) | ((with_reducible refine gate_store (t := 24) (p := 9) (v := .tmp 27) ?hgs ?_); (case hgs => rfl); refine wpList_store_row rfl rfl 24 9 (.tmp 27) rfl kp rfl #[.slice A0_0 l0_0.length c0_0, .int .i64 (x1), .int .i64 (x2)] #[.slice none 0 0, .int .i64 0, .int .i64 0] 24 (HS.out.get 1 rfl) (by rfl) (by kernel_rfl) rfl (by rfl) (fun W_ => St w [(ku, #[.bool false, .int .i64 0, .int .i64 0, .int .i64 0, .int .i64 0, .int .i64 0], 27), (kp, #[.slice A0_0 l0_0.length c0_0, .int .i64 (x1), .int .i64 (x2)], 24), (kt, #[.bool s_, .int .i64 (k_), .int .i64 (t_), .int .i64 (b_), .int .i64 (n_), .int .i64 (e_)], 27), (kd, #[.bool false, .int .i64 0, .int .i64 0, .int .i64 0, .int .i64 0, .int .i64 0], 27), (kc, #[.slice none 0 0, .int .i64 0, .int .i64 0], 24), (kq, #[.slice A0_0 l0_0.length c0_0, .int .i64 (tp_), .int .i64 (bt_)], 24)] [] W_) (HS.out.row 1 rfl #[.slice A0_0 l0_0.length c0_0, .int .i64 (x1), .int .i64 (x2)]) ?_; rintro w9 he_; clear HS; have HS := Lib.hid he_; clear he_) | ((with_reducible refine gate_store (t := 27) (p := 10) (v := .tmp 28) ?hgs ?_); (case hgs => rfl); refine wpList_store_row rfl rfl 27 10 (.tmp 28) rfl ku rfl #[.bool x3, .int .i64 (x4), .int .i64 (x5), .int .i64 (x6), .int .i64 (x7), .int .i64 (x8)] #[.bool false, .int .i64 0, .int .i64 0, .int .i64 0, .int .i64 0, .int .i64 0] 27 (HS.out.get 0 rfl) (by rfl) (by kernel_rfl) rfl (by rfl) (fun W_ => St w [(ku, #[.bool x3, .int .i64 (x4), .int .i64 (x5), .int .i64 (x6), .int .i64 (x7), .int .i64 (x8)], 27), (kp, #[.slice A0_0 l0_0.length c0_0, .int .i64 (x1), .int .i64 (x2)], 24), (kt, #[.bool s_, .int .i64 (k_), .int .i64 (t_), .int .i64 (b_), .int .i64 (n_), .int .i64 (e_)], 27), (kd, #[.bool false, .int .i64 0, .int .i64 0, .int .i64 0, .int .i64 0, .int .i64 0], 27), (kc, #[.slice none 0 0, .int .i64 0, .int .i64 0], 24), (kq, #[.slice A0_0 l0_0.length c0_0, .int .i64 (tp_), .int .i64 (bt_)], 24)] [] W_) (HS.out.row 0 rfl #[.bool x3, .int .i64 (x4), .int .i64 (x5), .int .i64 (x6), .int .i64 (x7), .int .i64 (x8)]) ?_; rintro w10 he_; clear HS; have HS := Lib.hid he_; clear he_))
            have HN := Lib.hid (HS.out.below (below_drew1 (Below.refl _ _)))
            clear HS
            have HS := Lib.hid HN.out
            clear HN
            refine start_ (n := 4) (S := fun W_ => W_.heap[kp]? = some (.cells #[.slice A0_0 l0_0.length c0_0, .int .i64 (x1), .int .i64 (x2)] 24 (0, 0)) ∧ W_.heap[ku]? = some (.cells #[.bool x3, .int .i64 (x4), .int .i64 (x5), .int .i64 (x6), .int .i64 (x7), .int .i64 (x8)] 27 (0, 0))) (ds := []) #[false, false, false, false] (by kernel_rfl) rfl rfl ⟨HS.out.get 1 rfl, HS.out.get 0 rfl⟩ (fun hHeld => ?_)
            refine take_ (i := 0) (N := some 35) (v := .agg #[.slice A0_0 l0_0.length c0_0, .int .i64 (x1), .int .i64 (x2)]) (a' := ?_) #[true, false, false, false] rfl rfl (by kernel_rfl) (fun _ _ _ h => h) (Or.inl ⟨by rfl, fun w' hs => run_load_row_ rfl kp rfl 24 _ _ hs.1 Tryd.underlying24 rfl (by kernel_rfl)⟩) hHeld ?_ ?_
            rotate_left
            · simp only [Act.put, List.setIfInBounds_toArray, List.set_cons_zero, List.set_cons_succ, i64_w, i32_w]
              rfl
            refine take_ (i := 1) (N := some 36) (v := .agg #[.bool x3, .int .i64 (x4), .int .i64 (x5), .int .i64 (x6), .int .i64 (x7), .int .i64 (x8)]) (a' := ?_) #[true, true, false, false] rfl rfl (by kernel_rfl) (fun _ _ _ h => h) (Or.inl ⟨by rfl, fun w' hs => run_load_row_ rfl ku rfl 27 _ _ hs.2 Tryd.underlying27 rfl (by kernel_rfl)⟩) hHeld ?_ ?_
            rotate_left
            · simp only [Act.put, List.setIfInBounds_toArray, List.set_cons_zero, List.set_cons_succ, i64_w, i32_w]
              rfl
            refine one_ (i := 2) (N := none) #[true, true, true, false] rfl rfl (by kernel_rfl) (by decide) (fun K hK => ?_)
            refine skip_ (by rfl) rfl (run_store_row_ rfl kq rfl #[.slice A0_0 l0_0.length c0_0, .int .i64 (x1), .int .i64 (x2)] #[.slice A0_0 l0_0.length c0_0, .int .i64 (tp_), .int .i64 (bt_)] 24 (HS.out.get 5 rfl) rfl (by kernel_rfl) rfl rfl) ?_
            have HN := Lib.hid (show St w [(ku, #[.bool x3, .int .i64 (x4), .int .i64 (x5), .int .i64 (x6), .int .i64 (x7), .int .i64 (x8)], 27), (kp, #[.slice A0_0 l0_0.length c0_0, .int .i64 (x1), .int .i64 (x2)], 24), (kt, #[.bool s_, .int .i64 (k_), .int .i64 (t_), .int .i64 (b_), .int .i64 (n_), .int .i64 (e_)], 27), (kd, #[.bool false, .int .i64 0, .int .i64 0, .int .i64 0, .int .i64 0, .int .i64 0], 27), (kc, #[.slice none 0 0, .int .i64 0, .int .i64 0], 24), (kq, #[.slice A0_0 l0_0.length c0_0, .int .i64 (x1), .int .i64 (x2)], 24)] [] _ from HS.out.row 5 rfl #[.slice A0_0 l0_0.length c0_0, .int .i64 (x1), .int .i64 (x2)])
            clear HS
            have HS := Lib.hid HN.out
            clear HN
            refine hK.out _ _ ⟨HS.out.get 1 rfl, HS.out.get 0 rfl⟩ (fun hHeld => ?_)
            clear hK K
            refine one_ (i := 3) (N := none) #[true, true, true, true] rfl rfl (by kernel_rfl) (by decide) (fun K hK => ?_)
            refine skip_ (by rfl) rfl (run_store_row_ rfl kt rfl #[.bool x3, .int .i64 (x4), .int .i64 (x5), .int .i64 (x6), .int .i64 (x7), .int .i64 (x8)] #[.bool s_, .int .i64 (k_), .int .i64 (t_), .int .i64 (b_), .int .i64 (n_), .int .i64 (e_)] 27 (HS.out.get 2 rfl) rfl (by kernel_rfl) rfl rfl) ?_
            have HN := Lib.hid (show St w [(ku, #[.bool x3, .int .i64 (x4), .int .i64 (x5), .int .i64 (x6), .int .i64 (x7), .int .i64 (x8)], 27), (kp, #[.slice A0_0 l0_0.length c0_0, .int .i64 (x1), .int .i64 (x2)], 24), (kt, #[.bool x3, .int .i64 (x4), .int .i64 (x5), .int .i64 (x6), .int .i64 (x7), .int .i64 (x8)], 27), (kd, #[.bool false, .int .i64 0, .int .i64 0, .int .i64 0, .int .i64 0, .int .i64 0], 27), (kc, #[.slice none 0 0, .int .i64 0, .int .i64 0], 24), (kq, #[.slice A0_0 l0_0.length c0_0, .int .i64 (x1), .int .i64 (x2)], 24)] [] _ from HS.out.row 2 rfl #[.bool x3, .int .i64 (x4), .int .i64 (x5), .int .i64 (x6), .int .i64 (x7), .int .i64 (x8)])
            clear HS
            have HS := Lib.hid HN.out
            clear HN
            refine hK.out _ _ ⟨HS.out.get 1 rfl, HS.out.get 0 rfl⟩ (fun hHeld => ?_)
            clear hK K
            refine done_ (by kernel_rfl) ?_
            have HN := Lib.hid (HS.out.drop.drop)
            clear HS
            try go_wp2
            go_roundg k1
            case measure => have := HK1.out; omega
            case rel => exact ⟨_, x1, x2, x3, x4, x5, x6, x7, x8, rfl, ⟨H⟩, ⟨by have := HK1.out; omega⟩, ⟨HN.out⟩⟩
          · rw [if_neg c9] at H
            have c9b : (x9 != 0) = true := by simpa using c9
            obtain ⟨rfl, rfl, rfl, rfl, rfl, rfl, rfl, rfl, rfl⟩ := nine H
            have erv : rv A0_0 c0_0 l0_0 x9 = .slice none 0 0 := if_neg c9
            go_wp2_with (first | (go_at_call 11; refine Calls.mono (ref_step.does A0_0 c0_0 l0_0 tp_ bt_ s_ k_ t_ b_ n_ e_ x1 x2 x3 x4 x5 x6 x7 x8 x9 HX.out _ ?_ ?_) ?_; exact Kd.C_below HR.out HS.out.B; exact Hc.out; rintro en_ w6 ⟨he_, hb⟩; rw [erv] at he_; subst he_; have HN := Lib.hid (show St w [(kt, #[.bool s_, .int .i64 (k_), .int .i64 (t_), .int .i64 (b_), .int .i64 (n_), .int .i64 (e_)], 27), (kd, #[.bool false, .int .i64 0, .int .i64 0, .int .i64 0, .int .i64 0, .int .i64 0], 27), (kc, #[.slice none 0 0, .int .i64 0, .int .i64 0], 24), (kq, #[.slice A0_0 l0_0.length c0_0, .int .i64 (tp_), .int .i64 (bt_)], 24)] [] w6 from HS.out.below hb); clear HS hb; have HS := Lib.hid HN.out; clear HN; clear fkt0 fkt1 fkt2 fkt3 fkt4 fkt5 fkq0 fkq1 fkq2) | ((with_reducible refine gate_dst (N := 9) rfl ?_); refine box_event ?hg (N := 9) ?hd (cs := #[.slice none 0 0, .int .i64 0, .int .i64 0]) (t := 24) ?hr ?_; (case hd => rfl); (case hg => rfl); (case hr => first | (go_simp; done) | (go_simp; rfl)); intro kp hE_ w7 hbox hb; have HN := Lib.hid (show St w [(kp, #[.slice none 0 0, .int .i64 0, .int .i64 0], 24), (kt, #[.bool s_, .int .i64 (k_), .int .i64 (t_), .int .i64 (b_), .int .i64 (n_), .int .i64 (e_)], 27), (kd, #[.bool false, .int .i64 0, .int .i64 0, .int .i64 0, .int .i64 0, .int .i64 0], 27), (kc, #[.slice none 0 0, .int .i64 0, .int .i64 0], 24), (kq, #[.slice A0_0 l0_0.length c0_0, .int .i64 (tp_), .int .i64 (bt_)], 24)] [] w7 from HS.out.box hE_ hbox hb); clear HS hE_ hbox hb; have HS := Lib.hid HN.out; clear HN) | ((with_reducible refine gate_dst (N := 10) rfl ?_); refine box_event ?hg (N := 10) ?hd (cs := #[.bool false, .int .i64 0, .int .i64 0, .int .i64 0, .int .i64 0, .int .i64 0]) (t := 27) ?hr ?_; (case hd => rfl); (case hg => rfl); (case hr => first | (go_simp; done) | (go_simp; rfl)); intro ku hE_ w8 hbox hb; have HN := Lib.hid (show St w [(ku, #[.bool false, .int .i64 0, .int .i64 0, .int .i64 0, .int .i64 0, .int .i64 0], 27), (kp, #[.slice none 0 0, .int .i64 0, .int .i64 0], 24), (kt, #[.bool s_, .int .i64 (k_), .int .i64 (t_), .int .i64 (b_), .int .i64 (n_), .int .i64 (e_)], 27), (kd, #[.bool false, .int .i64 0, .int .i64 0, .int .i64 0, .int .i64 0, .int .i64 0], 27), (kc, #[.slice none 0 0, .int .i64 0, .int .i64 0], 24), (kq, #[.slice A0_0 l0_0.length c0_0, .int .i64 (tp_), .int .i64 (bt_)], 24)] [] w8 from HS.out.box hE_ hbox hb); clear HS hE_ hbox hb; have HS := Lib.hid HN.out; clear HN) | ((with_reducible refine gate_store (t := 24) (p := 9) (v := .tmp 27) ?hgs ?_); (case hgs => rfl); refine wpList_store_row rfl rfl 24 9 (.tmp 27) rfl kp rfl #[.slice none 0 0, .int .i64 (x1), .int .i64 (x2)] #[.slice none 0 0, .int .i64 0, .int .i64 0] 24 (HS.out.get 1 rfl) (by rfl) (by kernel_rfl) rfl (by rfl) (fun W_ => St w [(ku, #[.bool false, .int .i64 0, .int .i64 0, .int .i64 0, .int .i64 0, .int .i64 0], 27), (kp, #[.slice none 0 0, .int .i64 (x1), .int .i64 (x2)], 24), (kt, #[.bool s_, .int .i64 (k_), .int .i64 (t_), .int .i64 (b_), .int .i64 (n_), .int .i64 (e_)], 27), (kd, #[.bool false, .int .i64 0, .int .i64 0, .int .i64 0, .int .i64 0, .int .i64 0], 27), (kc, #[.slice none 0 0, .int .i64 0, .int .i64 0], 24), (kq, #[.slice A0_0 l0_0.length c0_0, .int .i64 (tp_), .int .i64 (bt_)], 24)] [] W_) (HS.out.row 1 rfl #[.slice none 0 0, .int .i64 (x1), .int .i64 (x2)]) ?_; rintro w9 he_; clear HS; have HS := Lib.hid he_; clear he_) | ((with_reducible refine gate_store (t := 27) (p := 10) (v := .tmp 28) ?hgs ?_); (case hgs => rfl); refine wpList_store_row rfl rfl 27 10 (.tmp 28) rfl ku rfl #[.bool x3, .int .i64 (x4), .int .i64 (x5), .int .i64 (x6), .int .i64 (x7), .int .i64 (x8)] #[.bool false, .int .i64 0, .int .i64 0, .int .i64 0, .int .i64 0, .int .i64 0] 27 (HS.out.get 0 rfl) (by rfl) (by kernel_rfl) rfl (by rfl) (fun W_ => St w [(ku, #[.bool x3, .int .i64 (x4), .int .i64 (x5), .int .i64 (x6), .int .i64 (x7), .int .i64 (x8)], 27), (kp, #[.slice none 0 0, .int .i64 (x1), .int .i64 (x2)], 24), (kt, #[.bool s_, .int .i64 (k_), .int .i64 (t_), .int .i64 (b_), .int .i64 (n_), .int .i64 (e_)], 27), (kd, #[.bool false, .int .i64 0, .int .i64 0, .int .i64 0, .int .i64 0, .int .i64 0], 27), (kc, #[.slice none 0 0, .int .i64 0, .int .i64 0], 24), (kq, #[.slice A0_0 l0_0.length c0_0, .int .i64 (tp_), .int .i64 (bt_)], 24)] [] W_) (HS.out.row 0 rfl #[.bool x3, .int .i64 (x4), .int .i64 (x5), .int .i64 (x6), .int .i64 (x7), .int .i64 (x8)]) ?_; rintro w10 he_; clear HS; have HS := Lib.hid he_; clear he_) | ((with_reducible refine gate_store (t := 24) (p := 4) (v := .tmp 32) ?hgs ?_); (case hgs => rfl); refine wpList_store_row rfl rfl 24 4 (.tmp 32) rfl kc rfl #[.slice none 0 0, .int .i64 0, .int .i64 0] #[.slice none 0 0, .int .i64 0, .int .i64 0] 24 (HS.out.get 4 rfl) (by rfl) (by kernel_rfl) rfl (by rfl) (fun W_ => St w [(ku, #[.bool x3, .int .i64 (x4), .int .i64 (x5), .int .i64 (x6), .int .i64 (x7), .int .i64 (x8)], 27), (kp, #[.slice none 0 0, .int .i64 (x1), .int .i64 (x2)], 24), (kt, #[.bool s_, .int .i64 (k_), .int .i64 (t_), .int .i64 (b_), .int .i64 (n_), .int .i64 (e_)], 27), (kd, #[.bool false, .int .i64 0, .int .i64 0, .int .i64 0, .int .i64 0, .int .i64 0], 27), (kc, #[.slice none 0 0, .int .i64 0, .int .i64 0], 24), (kq, #[.slice A0_0 l0_0.length c0_0, .int .i64 (tp_), .int .i64 (bt_)], 24)] [] W_) (HS.out.row 4 rfl #[.slice none 0 0, .int .i64 0, .int .i64 0]) ?_; rintro w11 he_; clear HS; have HS := Lib.hid he_; clear he_) | ((with_reducible refine gate_store (t := 27) (p := 5) (v := .tmp 33) ?hgs ?_); (case hgs => rfl); refine wpList_store_row rfl rfl 27 5 (.tmp 33) rfl kd rfl #[.bool false, .int .i64 0, .int .i64 0, .int .i64 0, .int .i64 0, .int .i64 0] #[.bool false, .int .i64 0, .int .i64 0, .int .i64 0, .int .i64 0, .int .i64 0] 27 (HS.out.get 3 rfl) (by rfl) (by kernel_rfl) rfl (by rfl) (fun W_ => St w [(ku, #[.bool x3, .int .i64 (x4), .int .i64 (x5), .int .i64 (x6), .int .i64 (x7), .int .i64 (x8)], 27), (kp, #[.slice none 0 0, .int .i64 (x1), .int .i64 (x2)], 24), (kt, #[.bool s_, .int .i64 (k_), .int .i64 (t_), .int .i64 (b_), .int .i64 (n_), .int .i64 (e_)], 27), (kd, #[.bool false, .int .i64 0, .int .i64 0, .int .i64 0, .int .i64 0, .int .i64 0], 27), (kc, #[.slice none 0 0, .int .i64 0, .int .i64 0], 24), (kq, #[.slice A0_0 l0_0.length c0_0, .int .i64 (tp_), .int .i64 (bt_)], 24)] [] W_) (HS.out.row 3 rfl #[.bool false, .int .i64 0, .int .i64 0, .int .i64 0, .int .i64 0, .int .i64 0]) ?_; rintro w12 he_; clear HS; have HS := Lib.hid he_; clear he_))
            refine bodyPost_ret (results_list (rs := [.cell 4 24, .cell 5 27, .tmp 6]) rfl (by simp) (.cell kc 24 _ (0, 0) _ rfl (HS.out.get 4 rfl) Tryd.underlying24 rfl (by kernel_rfl) (.cell kd 27 _ (0, 0) _ rfl (HS.out.get 3 rfl) Tryd.underlying27 rfl (by kernel_rfl) (.tmp .nil)))) rfl ?_
            exact ⟨rfl, HS.out.B⟩
        · rw [if_neg ce] at H
          have ceb : (e_ == 0) = false := by simp [ce]
          clear ce
          obtain ⟨rfl, rfl, rfl, rfl, rfl, rfl, rfl, rfl, rfl⟩ := nine H
          have fkt5 : wr.cell? ⟨kt, 5, none⟩ = some (.int .i64 e_) := (blk_cell (HS.out.get 0 rfl) 5).trans rfl
          go_wp2
          clear fkt5
          have HN := Lib.hid (HS.out.below (below_drew1 (Below.refl _ _)))
          clear HS
          have HS := Lib.hid HN.out
          clear HN
          refine start_ (n := 5) (S := fun W_ => W_.heap[kq]? = some (.cells #[.slice A0_0 l0_0.length c0_0, .int .i64 (tp_), .int .i64 (bt_)] 24 (0, 0)) ∧ W_.heap[kt]? = some (.cells #[.bool s_, .int .i64 (k_), .int .i64 (t_), .int .i64 (b_), .int .i64 (n_), .int .i64 (e_)] 27 (0, 0))) (ds := []) #[false, false, false, false, false] (by kernel_rfl) rfl rfl ⟨HS.out.get 3 rfl, HS.out.get 0 rfl⟩ (fun hHeld => ?_)
          refine take_ (i := 0) (N := some 37) (v := .agg #[.slice A0_0 l0_0.length c0_0, .int .i64 (tp_), .int .i64 (bt_)]) (a' := ?_) #[true, false, false, false, false] rfl rfl (by kernel_rfl) (fun _ _ _ h => h) (Or.inl ⟨by rfl, fun w' hs => run_load_row_ rfl kq rfl 24 _ _ hs.1 Tryd.underlying24 rfl (by kernel_rfl)⟩) hHeld ?_ ?_
          rotate_left
          · simp only [Act.put, List.setIfInBounds_toArray, List.set_cons_zero, List.set_cons_succ, i64_w, i32_w]
            rfl
          refine take_ (i := 1) (N := some 38) (v := .agg #[.bool s_, .int .i64 (k_), .int .i64 (t_), .int .i64 (b_), .int .i64 (n_), .int .i64 (e_)]) (a' := ?_) #[true, true, false, false, false] rfl rfl (by kernel_rfl) (fun _ _ _ h => h) (Or.inl ⟨by rfl, fun w' hs => run_load_row_ rfl kt rfl 27 _ _ hs.2 Tryd.underlying27 rfl (by kernel_rfl)⟩) hHeld ?_ ?_
          rotate_left
          · simp only [Act.put, List.setIfInBounds_toArray, List.set_cons_zero, List.set_cons_succ, i64_w, i32_w]
            rfl
          refine one_ (i := 2) (N := none) #[true, true, true, false, false] rfl rfl (by kernel_rfl) (by decide) (fun K hK => ?_)
          refine skip_ (by rfl) rfl (run_store_row_ rfl kc rfl #[.slice A0_0 l0_0.length c0_0, .int .i64 (tp_), .int .i64 (bt_)] #[.slice none 0 0, .int .i64 0, .int .i64 0] 24 (HS.out.get 2 rfl) rfl (by kernel_rfl) rfl rfl) ?_
          have HN := Lib.hid (show St w [(kt, #[.bool s_, .int .i64 (k_), .int .i64 (t_), .int .i64 (b_), .int .i64 (n_), .int .i64 (e_)], 27), (kd, #[.bool false, .int .i64 0, .int .i64 0, .int .i64 0, .int .i64 0, .int .i64 0], 27), (kc, #[.slice A0_0 l0_0.length c0_0, .int .i64 (tp_), .int .i64 (bt_)], 24), (kq, #[.slice A0_0 l0_0.length c0_0, .int .i64 (tp_), .int .i64 (bt_)], 24)] [] _ from HS.out.row 2 rfl #[.slice A0_0 l0_0.length c0_0, .int .i64 (tp_), .int .i64 (bt_)])
          clear HS
          have HS := Lib.hid HN.out
          clear HN
          refine hK.out _ _ ⟨HS.out.get 3 rfl, HS.out.get 0 rfl⟩ (fun hHeld => ?_)
          clear hK K
          refine one_ (i := 3) (N := none) #[true, true, true, true, false] rfl rfl (by kernel_rfl) (by decide) (fun K hK => ?_)
          refine skip_ (by rfl) rfl (run_store_row_ rfl kd rfl #[.bool s_, .int .i64 (k_), .int .i64 (t_), .int .i64 (b_), .int .i64 (n_), .int .i64 (e_)] #[.bool false, .int .i64 0, .int .i64 0, .int .i64 0, .int .i64 0, .int .i64 0] 27 (HS.out.get 1 rfl) rfl (by kernel_rfl) rfl rfl) ?_
          have HN := Lib.hid (show St w [(kt, #[.bool s_, .int .i64 (k_), .int .i64 (t_), .int .i64 (b_), .int .i64 (n_), .int .i64 (e_)], 27), (kd, #[.bool s_, .int .i64 (k_), .int .i64 (t_), .int .i64 (b_), .int .i64 (n_), .int .i64 (e_)], 27), (kc, #[.slice A0_0 l0_0.length c0_0, .int .i64 (tp_), .int .i64 (bt_)], 24), (kq, #[.slice A0_0 l0_0.length c0_0, .int .i64 (tp_), .int .i64 (bt_)], 24)] [] _ from HS.out.row 1 rfl #[.bool s_, .int .i64 (k_), .int .i64 (t_), .int .i64 (b_), .int .i64 (n_), .int .i64 (e_)])
          clear HS
          have HS := Lib.hid HN.out
          clear HN
          refine hK.out _ _ ⟨HS.out.get 3 rfl, HS.out.get 0 rfl⟩ (fun hHeld => ?_)
          clear hK K
          refine pure_ (i := 4) (N := some 6) (v := .int .i64 0) #[true, true, true, true, true] rfl rfl (by kernel_rfl) (fun _ _ _ h => h) (Or.inl ⟨by rfl, fun w' => by go_simp⟩) rfl ?_
          refine done_ (by kernel_rfl) ?_
          try go_wp2
          refine bodyPost_ret (results_list (rs := [.cell 4 24, .cell 5 27, .tmp 6]) rfl (by simp) (.cell kc 24 _ (0, 0) _ rfl (HS.out.get 2 rfl) Tryd.underlying24 rfl (by kernel_rfl) (.cell kd 27 _ (0, 0) _ rfl (HS.out.get 1 rfl) Tryd.underlying27 rfl (by kernel_rfl) (.tmp .nil)))) rfl ?_
          exact ⟨rfl, HS.out.B⟩
      · rw [if_neg c6] at H
        have c6b : decide (i_ < 6) = false := decide_eq_false c6
        clear c6
        obtain ⟨rfl, rfl, rfl, rfl, rfl, rfl, rfl, rfl, rfl⟩ := nine H
        have fkt5 : wr.cell? ⟨kt, 5, none⟩ = some (.int .i64 e_) := (blk_cell (HS.out.get 0 rfl) 5).trans rfl
        go_wp2
        clear fkt5
        have HN := Lib.hid (HS.out.below (below_drew1 (Below.refl _ _)))
        clear HS
        have HS := Lib.hid HN.out
        clear HN
        refine start_ (n := 5) (S := fun W_ => W_.heap[kq]? = some (.cells #[.slice A0_0 l0_0.length c0_0, .int .i64 (tp_), .int .i64 (bt_)] 24 (0, 0)) ∧ W_.heap[kt]? = some (.cells #[.bool s_, .int .i64 (k_), .int .i64 (t_), .int .i64 (b_), .int .i64 (n_), .int .i64 (e_)] 27 (0, 0))) (ds := []) #[false, false, false, false, false] (by kernel_rfl) rfl rfl ⟨HS.out.get 3 rfl, HS.out.get 0 rfl⟩ (fun hHeld => ?_)
        refine take_ (i := 0) (N := some 37) (v := .agg #[.slice A0_0 l0_0.length c0_0, .int .i64 (tp_), .int .i64 (bt_)]) (a' := ?_) #[true, false, false, false, false] rfl rfl (by kernel_rfl) (fun _ _ _ h => h) (Or.inl ⟨by rfl, fun w' hs => run_load_row_ rfl kq rfl 24 _ _ hs.1 Tryd.underlying24 rfl (by kernel_rfl)⟩) hHeld ?_ ?_
        rotate_left
        · simp only [Act.put, List.setIfInBounds_toArray, List.set_cons_zero, List.set_cons_succ, i64_w, i32_w]
          rfl
        refine take_ (i := 1) (N := some 38) (v := .agg #[.bool s_, .int .i64 (k_), .int .i64 (t_), .int .i64 (b_), .int .i64 (n_), .int .i64 (e_)]) (a' := ?_) #[true, true, false, false, false] rfl rfl (by kernel_rfl) (fun _ _ _ h => h) (Or.inl ⟨by rfl, fun w' hs => run_load_row_ rfl kt rfl 27 _ _ hs.2 Tryd.underlying27 rfl (by kernel_rfl)⟩) hHeld ?_ ?_
        rotate_left
        · simp only [Act.put, List.setIfInBounds_toArray, List.set_cons_zero, List.set_cons_succ, i64_w, i32_w]
          rfl
        refine one_ (i := 2) (N := none) #[true, true, true, false, false] rfl rfl (by kernel_rfl) (by decide) (fun K hK => ?_)
        refine skip_ (by rfl) rfl (run_store_row_ rfl kc rfl #[.slice A0_0 l0_0.length c0_0, .int .i64 (tp_), .int .i64 (bt_)] #[.slice none 0 0, .int .i64 0, .int .i64 0] 24 (HS.out.get 2 rfl) rfl (by kernel_rfl) rfl rfl) ?_
        have HN := Lib.hid (show St w [(kt, #[.bool s_, .int .i64 (k_), .int .i64 (t_), .int .i64 (b_), .int .i64 (n_), .int .i64 (e_)], 27), (kd, #[.bool false, .int .i64 0, .int .i64 0, .int .i64 0, .int .i64 0, .int .i64 0], 27), (kc, #[.slice A0_0 l0_0.length c0_0, .int .i64 (tp_), .int .i64 (bt_)], 24), (kq, #[.slice A0_0 l0_0.length c0_0, .int .i64 (tp_), .int .i64 (bt_)], 24)] [] _ from HS.out.row 2 rfl #[.slice A0_0 l0_0.length c0_0, .int .i64 (tp_), .int .i64 (bt_)])
        clear HS
        have HS := Lib.hid HN.out
        clear HN
        refine hK.out _ _ ⟨HS.out.get 3 rfl, HS.out.get 0 rfl⟩ (fun hHeld => ?_)
        clear hK K
        refine one_ (i := 3) (N := none) #[true, true, true, true, false] rfl rfl (by kernel_rfl) (by decide) (fun K hK => ?_)
        refine skip_ (by rfl) rfl (run_store_row_ rfl kd rfl #[.bool s_, .int .i64 (k_), .int .i64 (t_), .int .i64 (b_), .int .i64 (n_), .int .i64 (e_)] #[.bool false, .int .i64 0, .int .i64 0, .int .i64 0, .int .i64 0, .int .i64 0] 27 (HS.out.get 1 rfl) rfl (by kernel_rfl) rfl rfl) ?_
        have HN := Lib.hid (show St w [(kt, #[.bool s_, .int .i64 (k_), .int .i64 (t_), .int .i64 (b_), .int .i64 (n_), .int .i64 (e_)], 27), (kd, #[.bool s_, .int .i64 (k_), .int .i64 (t_), .int .i64 (b_), .int .i64 (n_), .int .i64 (e_)], 27), (kc, #[.slice A0_0 l0_0.length c0_0, .int .i64 (tp_), .int .i64 (bt_)], 24), (kq, #[.slice A0_0 l0_0.length c0_0, .int .i64 (tp_), .int .i64 (bt_)], 24)] [] _ from HS.out.row 1 rfl #[.bool s_, .int .i64 (k_), .int .i64 (t_), .int .i64 (b_), .int .i64 (n_), .int .i64 (e_)])
        clear HS
        have HS := Lib.hid HN.out
        clear HN
        refine hK.out _ _ ⟨HS.out.get 3 rfl, HS.out.get 0 rfl⟩ (fun hHeld => ?_)
        clear hK K
        refine pure_ (i := 4) (N := some 6) (v := .int .i64 0) #[true, true, true, true, true] rfl rfl (by kernel_rfl) (fun _ _ _ h => h) (Or.inl ⟨by rfl, fun w' => by go_simp⟩) rfl ?_
        refine done_ (by kernel_rfl) ?_
        try go_wp2
        refine bodyPost_ret (results_list (rs := [.cell 4 24, .cell 5 27, .tmp 6]) rfl (by simp) (.cell kc 24 _ (0, 0) _ rfl (HS.out.get 2 rfl) Tryd.underlying24 rfl (by kernel_rfl) (.cell kd 27 _ (0, 0) _ rfl (HS.out.get 1 rfl) Tryd.underlying27 rfl (by kernel_rfl) (.tmp .nil)))) rfl ?_
        exact ⟨rfl, HS.out.B⟩
end Go.Proofs.YtdmgigicbppjkaaDoor.Q
