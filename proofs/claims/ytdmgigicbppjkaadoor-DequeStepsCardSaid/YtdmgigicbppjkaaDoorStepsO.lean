/- The document's owner: each of its ways. -/
import Derived.Test.YtdmgigicbppjkaaDoorStepsH
set_option linter.unusedVariables false
set_option linter.unusedSimpArgs false
namespace Go.Proofs.YtdmgigicbppjkaaDoor.Q
open Go.RowKit Go.Proofs.YtdmgigicbppjkaaDoorW.PrintWords Go.Proofs.YtdmgigicbppjkaaDoorW.PrintLast Go.Proofs.YtdmgigicbppjkaaDoorW.PrintMore
attribute [local go_sem] max2_int min2_int max_two min_two max_three min_three max_four min_four   -- for this text's walks alone
set_option maxHeartbeats 4000000 in
theorem ow_0 (A0_0 : Option Addr) (c0_0 : Nat) (l0_0 : List Int) (a0_1 : Int) (a0_2 : Int) (a1_0 : Bool) (a1_1 : Int) (a1_2 : Int) (a1_3 : Int) (a1_4 : Int) (a1_5 : Int) (e_ : a1_1 = 0) (w : World) (hr0_0 : Kd.C (Kd.int .i64) w A0_0 l0_0.length l0_0) (hc0_0 : l0_0.length ≤ c0_0) :
    Calls Tryd.prog 32 #[.agg #[.slice A0_0 l0_0.length c0_0, .int .i64 a0_1, .int .i64 a0_2], .agg #[.bool a1_0, .int .i64 a1_1, .int .i64 a1_2, .int .i64 a1_3, .int .i64 a1_4, .int .i64 a1_5]] w fun e w' => e = .returned (.tuple #[.agg #[.slice A0_0 l0_0.length c0_0, .int .i64 (a0_1), .int .i64 (wrap64 (a0_2 - 1))], .agg #[.bool a1_0, .int .i64 (1), .int .i64 (a1_2), .int .i64 (wrap64 (a0_2 - 1)), .int .i64 (a1_4), .int .i64 (a1_5)]]) ∧ Below w.heap.size w w' := by
  have k0 : (a1_1 == 0) = true := by rw [e_]; rfl
  clear e_
  have HR := Lib.hid hr0_0
  have Hc := Lib.hid hc0_0
  clear hr0_0 hc0_0
  go_enter Tryd.func32, Tryd.ntmps32
  go_wp2_with (first | ((with_reducible refine gate_dst (N := 2) rfl ?_); refine box_event ?hg (N := 2) ?hd (cs := #[.slice A0_0 l0_0.length c0_0, .int .i64 a0_1, .int .i64 a0_2]) (t := 24) ?hr ?_; (case hd => rfl); (case hg => rfl); (case hr => first | (go_simp; done) | (go_simp; rfl)); intro kq hE_ w1 hbox hb; have Ekq := Lib.hid hE_; have Xkq := Lib.hid hbox; have Bkq := Lib.hid hb; clear hE_ hbox hb) | ((with_reducible refine gate_dst (N := 3) rfl ?_); refine box_event ?hg (N := 3) ?hd (cs := #[.bool a1_0, .int .i64 a1_1, .int .i64 a1_2, .int .i64 a1_3, .int .i64 a1_4, .int .i64 a1_5]) (t := 27) ?hr ?_; (case hd => rfl); (case hg => rfl); (case hr => first | (go_simp; done) | (go_simp; rfl)); intro kt hE_ w2 hbox hb; have Ekt := Lib.hid hE_; have Xkt := Lib.hid hbox; have Bkt := Lib.hid hb; clear hE_ hbox hb) | ((with_reducible refine gate_dst (N := 4) rfl ?_); refine box_event ?hg (N := 4) ?hd (cs := #[.slice none 0 0, .int .i64 0, .int .i64 0]) (t := 24) ?hr ?_; (case hd => rfl); (case hg => rfl); (case hr => first | (go_simp; done) | (go_simp; rfl)); intro kc hE_ w3 hbox hb; have Ekc := Lib.hid hE_; have Xkc := Lib.hid hbox; have Bkc := Lib.hid hb; clear hE_ hbox hb) | ((with_reducible refine gate_dst (N := 5) rfl ?_); refine box_event ?hg (N := 5) ?hd (cs := #[.bool false, .int .i64 0, .int .i64 0, .int .i64 0, .int .i64 0, .int .i64 0]) (t := 27) ?hr ?_; (case hd => rfl); (case hg => rfl); (case hr => first | (go_simp; done) | (go_simp; rfl)); intro kd hE_ w4 hbox hb; have Ekd := Lib.hid hE_; have Xkd := Lib.hid hbox; have Bkd := Lib.hid hb; clear hE_ hbox hb; have HF := Lib.hid (Four.make Bkq.out Bkt.out Bkc.out Bkd.out Ekq.out Ekt.out Ekc.out Ekd.out Xkq.out Xkt.out Xkc.out Xkd.out); clear Bkq Bkt Bkc Bkd Ekq Ekt Ekc Ekd Xkq Xkt Xkc Xkd; have g2 : w4.cell? ⟨kq, 2, none⟩ = some (.int .i64 a0_2) := (blk_cell HF.out.bg 2).trans rfl; have g2f := blk_frozen HF.out.bg 2; have h1 : w4.cell? ⟨kt, 1, none⟩ = some (.int .i64 a1_1) := (blk_cell HF.out.bh 1).trans rfl; have h1f := blk_frozen HF.out.bh 1; have h3 : w4.cell? ⟨kt, 3, none⟩ = some (.int .i64 a1_3) := (blk_cell HF.out.bh 3).trans rfl; have h3f := blk_frozen HF.out.bh 3))
  refine wp_gen (fun W_ => Four w kq kt kc kd #[.slice A0_0 l0_0.length c0_0, .int .i64 (a0_1), .int .i64 (wrap64 (a0_2 - 1))] #[.bool a1_0, .int .i64 (1), .int .i64 (a1_2), .int .i64 (wrap64 (a0_2 - 1)), .int .i64 (a1_4), .int .i64 (a1_5)] #[.slice none 0 0, .int .i64 0, .int .i64 0] #[.bool false, .int .i64 0, .int .i64 0, .int .i64 0, .int .i64 0, .int .i64 0] W_) ?_ ?_
  · apply Four.to
    · repeat (first | (with_reducible exact HF.out) | (with_reducible apply Four.setG) | (with_reducible apply Four.setH))
    all_goals rfl
  rintro wa hFa
  have Ha := Lib.hid (Four.drew hFa)
  clear hFa HF g2 g2f h1 h1f h3 h3f
  refine start_ (n := 4) (S := fun W_ => W_.heap[kq]? = some (.cells #[.slice A0_0 l0_0.length c0_0, .int .i64 (a0_1), .int .i64 (wrap64 (a0_2 - 1))] 24 (0, 0)) ∧ W_.heap[kt]? = some (.cells #[.bool a1_0, .int .i64 (1), .int .i64 (a1_2), .int .i64 (wrap64 (a0_2 - 1)), .int .i64 (a1_4), .int .i64 (a1_5)] 27 (0, 0))) (ds := []) #[false, false, false, false] (by kernel_rfl) rfl rfl ⟨Ha.out.bg, Ha.out.bh⟩ (fun hHeld => ?_)
  refine take_ (i := 0) (N := some 17) (v := .agg #[.slice A0_0 l0_0.length c0_0, .int .i64 (a0_1), .int .i64 (wrap64 (a0_2 - 1))]) (a' := ?_) #[true, false, false, false] rfl rfl (by kernel_rfl) (fun _ _ _ h => h) (Or.inl ⟨by rfl, fun w' hs => run_load_row_ rfl kq rfl 24 _ _ hs.1 Tryd.underlying24 rfl (by kernel_rfl)⟩) hHeld ?_ ?_
  rotate_left
  · simp only [Act.put, List.setIfInBounds_toArray, List.set_cons_zero, List.set_cons_succ, i64_w, i32_w]
    rfl
  refine take_ (i := 1) (N := some 18) (v := .agg #[.bool a1_0, .int .i64 (1), .int .i64 (a1_2), .int .i64 (wrap64 (a0_2 - 1)), .int .i64 (a1_4), .int .i64 (a1_5)]) (a' := ?_) #[true, true, false, false] rfl rfl (by kernel_rfl) (fun _ _ _ h => h) (Or.inl ⟨by rfl, fun w' hs => run_load_row_ rfl kt rfl 27 _ _ hs.2 Tryd.underlying27 rfl (by kernel_rfl)⟩) hHeld ?_ ?_
  rotate_left
  · simp only [Act.put, List.setIfInBounds_toArray, List.set_cons_zero, List.set_cons_succ, i64_w, i32_w]
    rfl
  refine one_ (i := 2) (N := none) #[true, true, true, false] rfl rfl (by kernel_rfl) (by decide) (fun K hK => ?_)
  refine skip_ (by rfl) rfl (run_store_row_ rfl kc rfl #[.slice A0_0 l0_0.length c0_0, .int .i64 (a0_1), .int .i64 (wrap64 (a0_2 - 1))] #[.slice none 0 0, .int .i64 0, .int .i64 0] 24 Ha.out.bc rfl (by kernel_rfl) rfl rfl) ?_
  have Hb := Lib.hid (Four.rowC Ha.out #[.slice A0_0 l0_0.length c0_0, .int .i64 (a0_1), .int .i64 (wrap64 (a0_2 - 1))])
  refine hK.out _ _ ⟨Hb.out.bg, Hb.out.bh⟩ (fun hHeld => ?_)
  clear hK K Ha
  refine one_ (i := 3) (N := none) #[true, true, true, true] rfl rfl (by kernel_rfl) (by decide) (fun K hK => ?_)
  refine skip_ (by rfl) rfl (run_store_row_ rfl kd rfl #[.bool a1_0, .int .i64 (1), .int .i64 (a1_2), .int .i64 (wrap64 (a0_2 - 1)), .int .i64 (a1_4), .int .i64 (a1_5)] #[.bool false, .int .i64 0, .int .i64 0, .int .i64 0, .int .i64 0, .int .i64 0] 27 Hb.out.bd rfl (by kernel_rfl) rfl rfl) ?_
  have HD_ := Lib.hid (Four.rowD Hb.out #[.bool a1_0, .int .i64 (1), .int .i64 (a1_2), .int .i64 (wrap64 (a0_2 - 1)), .int .i64 (a1_4), .int .i64 (a1_5)])
  refine hK.out _ _ ⟨HD_.out.bg, HD_.out.bh⟩ (fun hHeld => ?_)
  clear hK K Hb
  refine done_ (by kernel_rfl) ?_
  try go_wp2
  refine bodyPost_ret (results_list (rs := [.cell 4 24, .cell 5 27]) rfl (by simp) (.cell kc 24 _ (0, 0) _ rfl HD_.out.bc Tryd.underlying24 rfl (by kernel_rfl) (.cell kd 27 _ (0, 0) _ rfl HD_.out.bd Tryd.underlying27 rfl (by kernel_rfl) .nil))) rfl ?_
  exact ⟨rfl, HD_.out.B⟩

set_option maxHeartbeats 4000000 in
theorem ow_1l (A0_0 : Option Addr) (c0_0 : Nat) (l0_0 : List Int) (a0_1 : Int) (a0_2 : Int) (a1_0 : Bool) (a1_1 : Int) (a1_2 : Int) (a1_3 : Int) (a1_4 : Int) (a1_5 : Int) (e_ : a1_1 = 1) (c : a0_1 < a1_3) (p : Int) (hp : trefoilref12_At.f l0_0 a0_1 a0_2 a1_3 = some p) (w : World) (hr0_0 : Kd.C (Kd.int .i64) w A0_0 l0_0.length l0_0) (hc0_0 : l0_0.length ≤ c0_0) :
    Calls Tryd.prog 32 #[.agg #[.slice A0_0 l0_0.length c0_0, .int .i64 a0_1, .int .i64 a0_2], .agg #[.bool a1_0, .int .i64 a1_1, .int .i64 a1_2, .int .i64 a1_3, .int .i64 a1_4, .int .i64 a1_5]] w fun e w' => e = .returned (.tuple #[.agg #[.slice A0_0 l0_0.length c0_0, .int .i64 (a0_1), .int .i64 (a0_2)], .agg #[.bool a1_0, .int .i64 (a1_1), .int .i64 (a0_1), .int .i64 (a1_3), .int .i64 (p), .int .i64 (1)]]) ∧ Below w.heap.size w w' := by
  have k0 : (a1_1 == 0) = false := by rw [e_]; rfl
  have k1 : (a1_1 == 1) = true := by rw [e_]; rfl
  clear e_
  have cb : decide (a0_1 < a1_3) = true := decide_eq_true c
  have HP := Lib.hid hp
  clear c hp
  have HR := Lib.hid hr0_0
  have Hc := Lib.hid hc0_0
  clear hr0_0 hc0_0
  go_enter Tryd.func32, Tryd.ntmps32
  go_wp2_with (first | ((with_reducible refine gate_dst (N := 2) rfl ?_); refine box_event ?hg (N := 2) ?hd (cs := #[.slice A0_0 l0_0.length c0_0, .int .i64 a0_1, .int .i64 a0_2]) (t := 24) ?hr ?_; (case hd => rfl); (case hg => rfl); (case hr => first | (go_simp; done) | (go_simp; rfl)); intro kq hE_ w1 hbox hb; have Ekq := Lib.hid hE_; have Xkq := Lib.hid hbox; have Bkq := Lib.hid hb; clear hE_ hbox hb) | ((with_reducible refine gate_dst (N := 3) rfl ?_); refine box_event ?hg (N := 3) ?hd (cs := #[.bool a1_0, .int .i64 a1_1, .int .i64 a1_2, .int .i64 a1_3, .int .i64 a1_4, .int .i64 a1_5]) (t := 27) ?hr ?_; (case hd => rfl); (case hg => rfl); (case hr => first | (go_simp; done) | (go_simp; rfl)); intro kt hE_ w2 hbox hb; have Ekt := Lib.hid hE_; have Xkt := Lib.hid hbox; have Bkt := Lib.hid hb; clear hE_ hbox hb) | ((with_reducible refine gate_dst (N := 4) rfl ?_); refine box_event ?hg (N := 4) ?hd (cs := #[.slice none 0 0, .int .i64 0, .int .i64 0]) (t := 24) ?hr ?_; (case hd => rfl); (case hg => rfl); (case hr => first | (go_simp; done) | (go_simp; rfl)); intro kc hE_ w3 hbox hb; have Ekc := Lib.hid hE_; have Xkc := Lib.hid hbox; have Bkc := Lib.hid hb; clear hE_ hbox hb) | ((with_reducible refine gate_dst (N := 5) rfl ?_); refine box_event ?hg (N := 5) ?hd (cs := #[.bool false, .int .i64 0, .int .i64 0, .int .i64 0, .int .i64 0, .int .i64 0]) (t := 27) ?hr ?_; (case hd => rfl); (case hg => rfl); (case hr => first | (go_simp; done) | (go_simp; rfl)); intro kd hE_ w4 hbox hb; have Ekd := Lib.hid hE_; have Xkd := Lib.hid hbox; have Bkd := Lib.hid hb; clear hE_ hbox hb; have HF := Lib.hid (Four.make Bkq.out Bkt.out Bkc.out Bkd.out Ekq.out Ekt.out Ekc.out Ekd.out Xkq.out Xkt.out Xkc.out Xkd.out); clear Bkq Bkt Bkc Bkd Ekq Ekt Ekc Ekd Xkq Xkt Xkc Xkd; have g0 : w4.cell? ⟨kq, 0, none⟩ = some (.slice A0_0 l0_0.length c0_0) := (blk_cell HF.out.bg 0).trans rfl; have g1 : w4.cell? ⟨kq, 1, none⟩ = some (.int .i64 a0_1) := (blk_cell HF.out.bg 1).trans rfl; have g2 : w4.cell? ⟨kq, 2, none⟩ = some (.int .i64 a0_2) := (blk_cell HF.out.bg 2).trans rfl; have h1 : w4.cell? ⟨kt, 1, none⟩ = some (.int .i64 a1_1) := (blk_cell HF.out.bh 1).trans rfl; have h2 : w4.cell? ⟨kt, 2, none⟩ = some (.int .i64 a1_2) := (blk_cell HF.out.bh 2).trans rfl; have h2f := blk_frozen HF.out.bh 2; have h3 : w4.cell? ⟨kt, 3, none⟩ = some (.int .i64 a1_3) := (blk_cell HF.out.bh 3).trans rfl; have nqt : kq ≠ kt := blk_ne HF.out.bg HF.out.bh (by decide); have ntq : kt ≠ kq := nqt.symm) | (go_at_call 35; refine Calls.mono (trefoilref12_At.calls A0_0 c0_0 l0_0 a0_1 a0_2 a1_3 p _ ?_ ?_ HP.out) ?_; exact Kd.C_below HR.out (by repeat (first | exact HF.out.B | refine below_set ?_ HF.out.eg | refine below_set ?_ HF.out.eh)); exact Hc.out; rintro _ w5 ⟨rfl, hb⟩; have HN := Lib.hid (show Four w kq kt kc kd #[.slice A0_0 l0_0.length c0_0, .int .i64 (a0_1), .int .i64 (a0_2)] #[.bool a1_0, .int .i64 (a1_1), .int .i64 (a0_1), .int .i64 (a1_3), .int .i64 (a1_4), .int .i64 (a1_5)] #[.slice none 0 0, .int .i64 0, .int .i64 0] #[.bool false, .int .i64 0, .int .i64 0, .int .i64 0, .int .i64 0, .int .i64 0] w5 from Four.below (by apply Four.to; (repeat (first | (with_reducible exact HF.out) | (with_reducible apply Four.setG) | (with_reducible apply Four.setH))); all_goals rfl) hb); clear HF hb g0 g1 g2 h1 h2 h2f h3 nqt ntq; have HF := Lib.hid HN.out; clear HN; have h4 : w5.cell? ⟨kt, 4, none⟩ = some (.int .i64 a1_4) := (blk_cell HF.out.bh 4).trans rfl; have h4f := blk_frozen HF.out.bh 4; have h5 : w5.cell? ⟨kt, 5, none⟩ = some (.int .i64 a1_5) := (blk_cell HF.out.bh 5).trans rfl; have h5f := blk_frozen HF.out.bh 5))
  refine wp_gen (fun W_ => Four w kq kt kc kd #[.slice A0_0 l0_0.length c0_0, .int .i64 (a0_1), .int .i64 (a0_2)] #[.bool a1_0, .int .i64 (a1_1), .int .i64 (a0_1), .int .i64 (a1_3), .int .i64 (p), .int .i64 (1)] #[.slice none 0 0, .int .i64 0, .int .i64 0] #[.bool false, .int .i64 0, .int .i64 0, .int .i64 0, .int .i64 0, .int .i64 0] W_) ?_ ?_
  · apply Four.to
    · repeat (first | (with_reducible exact HF.out) | (with_reducible apply Four.setG) | (with_reducible apply Four.setH))
    all_goals rfl
  rintro wa hFa
  have Ha := Lib.hid (Four.drew hFa)
  clear hFa HF h4 h4f h5 h5f
  refine start_ (n := 4) (S := fun W_ => W_.heap[kq]? = some (.cells #[.slice A0_0 l0_0.length c0_0, .int .i64 (a0_1), .int .i64 (a0_2)] 24 (0, 0)) ∧ W_.heap[kt]? = some (.cells #[.bool a1_0, .int .i64 (a1_1), .int .i64 (a0_1), .int .i64 (a1_3), .int .i64 (p), .int .i64 (1)] 27 (0, 0))) (ds := []) #[false, false, false, false] (by kernel_rfl) rfl rfl ⟨Ha.out.bg, Ha.out.bh⟩ (fun hHeld => ?_)
  refine take_ (i := 0) (N := some 43) (v := .agg #[.slice A0_0 l0_0.length c0_0, .int .i64 (a0_1), .int .i64 (a0_2)]) (a' := ?_) #[true, false, false, false] rfl rfl (by kernel_rfl) (fun _ _ _ h => h) (Or.inl ⟨by rfl, fun w' hs => run_load_row_ rfl kq rfl 24 _ _ hs.1 Tryd.underlying24 rfl (by kernel_rfl)⟩) hHeld ?_ ?_
  rotate_left
  · simp only [Act.put, List.setIfInBounds_toArray, List.set_cons_zero, List.set_cons_succ, i64_w, i32_w]
    rfl
  refine take_ (i := 1) (N := some 44) (v := .agg #[.bool a1_0, .int .i64 (a1_1), .int .i64 (a0_1), .int .i64 (a1_3), .int .i64 (p), .int .i64 (1)]) (a' := ?_) #[true, true, false, false] rfl rfl (by kernel_rfl) (fun _ _ _ h => h) (Or.inl ⟨by rfl, fun w' hs => run_load_row_ rfl kt rfl 27 _ _ hs.2 Tryd.underlying27 rfl (by kernel_rfl)⟩) hHeld ?_ ?_
  rotate_left
  · simp only [Act.put, List.setIfInBounds_toArray, List.set_cons_zero, List.set_cons_succ, i64_w, i32_w]
    rfl
  refine one_ (i := 2) (N := none) #[true, true, true, false] rfl rfl (by kernel_rfl) (by decide) (fun K hK => ?_)
  refine skip_ (by rfl) rfl (run_store_row_ rfl kc rfl #[.slice A0_0 l0_0.length c0_0, .int .i64 (a0_1), .int .i64 (a0_2)] #[.slice none 0 0, .int .i64 0, .int .i64 0] 24 Ha.out.bc rfl (by kernel_rfl) rfl rfl) ?_
  have Hb := Lib.hid (Four.rowC Ha.out #[.slice A0_0 l0_0.length c0_0, .int .i64 (a0_1), .int .i64 (a0_2)])
  refine hK.out _ _ ⟨Hb.out.bg, Hb.out.bh⟩ (fun hHeld => ?_)
  clear hK K Ha
  refine one_ (i := 3) (N := none) #[true, true, true, true] rfl rfl (by kernel_rfl) (by decide) (fun K hK => ?_)
  refine skip_ (by rfl) rfl (run_store_row_ rfl kd rfl #[.bool a1_0, .int .i64 (a1_1), .int .i64 (a0_1), .int .i64 (a1_3), .int .i64 (p), .int .i64 (1)] #[.bool false, .int .i64 0, .int .i64 0, .int .i64 0, .int .i64 0, .int .i64 0] 27 Hb.out.bd rfl (by kernel_rfl) rfl rfl) ?_
  have HD_ := Lib.hid (Four.rowD Hb.out #[.bool a1_0, .int .i64 (a1_1), .int .i64 (a0_1), .int .i64 (a1_3), .int .i64 (p), .int .i64 (1)])
  refine hK.out _ _ ⟨HD_.out.bg, HD_.out.bh⟩ (fun hHeld => ?_)
  clear hK K Hb
  refine done_ (by kernel_rfl) ?_
  try go_wp2
  refine bodyPost_ret (results_list (rs := [.cell 4 24, .cell 5 27]) rfl (by simp) (.cell kc 24 _ (0, 0) _ rfl HD_.out.bc Tryd.underlying24 rfl (by kernel_rfl) (.cell kd 27 _ (0, 0) _ rfl HD_.out.bd Tryd.underlying27 rfl (by kernel_rfl) .nil))) rfl ?_
  exact ⟨rfl, HD_.out.B⟩

set_option maxHeartbeats 4000000 in
theorem ow_1e (A0_0 : Option Addr) (c0_0 : Nat) (l0_0 : List Int) (a0_1 : Int) (a0_2 : Int) (a1_0 : Bool) (a1_1 : Int) (a1_2 : Int) (a1_3 : Int) (a1_4 : Int) (a1_5 : Int) (e_ : a1_1 = 1) (c : ¬ a0_1 < a1_3) (c2 : a0_1 = a1_3) (w : World) (hr0_0 : Kd.C (Kd.int .i64) w A0_0 l0_0.length l0_0) (hc0_0 : l0_0.length ≤ c0_0) :
    Calls Tryd.prog 32 #[.agg #[.slice A0_0 l0_0.length c0_0, .int .i64 a0_1, .int .i64 a0_2], .agg #[.bool a1_0, .int .i64 a1_1, .int .i64 a1_2, .int .i64 a1_3, .int .i64 a1_4, .int .i64 a1_5]] w fun e w' => e = .returned (.tuple #[.agg #[.slice A0_0 l0_0.length c0_0, .int .i64 (a0_1), .int .i64 (a0_2)], .agg #[.bool a1_0, .int .i64 (2), .int .i64 (a0_1), .int .i64 (a1_3), .int .i64 (a1_4), .int .i64 (a1_5)]]) ∧ Below w.heap.size w w' := by
  have k0 : (a1_1 == 0) = false := by rw [e_]; rfl
  have k1 : (a1_1 == 1) = true := by rw [e_]; rfl
  clear e_
  have cb : decide (a0_1 < a1_3) = false := decide_eq_false c
  have cb2 : (a0_1 == a1_3) = true := by simp [c2]
  clear c c2
  have HR := Lib.hid hr0_0
  have Hc := Lib.hid hc0_0
  clear hr0_0 hc0_0
  go_enter Tryd.func32, Tryd.ntmps32
  go_wp2_with (first | ((with_reducible refine gate_dst (N := 2) rfl ?_); refine box_event ?hg (N := 2) ?hd (cs := #[.slice A0_0 l0_0.length c0_0, .int .i64 a0_1, .int .i64 a0_2]) (t := 24) ?hr ?_; (case hd => rfl); (case hg => rfl); (case hr => first | (go_simp; done) | (go_simp; rfl)); intro kq hE_ w1 hbox hb; have Ekq := Lib.hid hE_; have Xkq := Lib.hid hbox; have Bkq := Lib.hid hb; clear hE_ hbox hb) | ((with_reducible refine gate_dst (N := 3) rfl ?_); refine box_event ?hg (N := 3) ?hd (cs := #[.bool a1_0, .int .i64 a1_1, .int .i64 a1_2, .int .i64 a1_3, .int .i64 a1_4, .int .i64 a1_5]) (t := 27) ?hr ?_; (case hd => rfl); (case hg => rfl); (case hr => first | (go_simp; done) | (go_simp; rfl)); intro kt hE_ w2 hbox hb; have Ekt := Lib.hid hE_; have Xkt := Lib.hid hbox; have Bkt := Lib.hid hb; clear hE_ hbox hb) | ((with_reducible refine gate_dst (N := 4) rfl ?_); refine box_event ?hg (N := 4) ?hd (cs := #[.slice none 0 0, .int .i64 0, .int .i64 0]) (t := 24) ?hr ?_; (case hd => rfl); (case hg => rfl); (case hr => first | (go_simp; done) | (go_simp; rfl)); intro kc hE_ w3 hbox hb; have Ekc := Lib.hid hE_; have Xkc := Lib.hid hbox; have Bkc := Lib.hid hb; clear hE_ hbox hb) | ((with_reducible refine gate_dst (N := 5) rfl ?_); refine box_event ?hg (N := 5) ?hd (cs := #[.bool false, .int .i64 0, .int .i64 0, .int .i64 0, .int .i64 0, .int .i64 0]) (t := 27) ?hr ?_; (case hd => rfl); (case hg => rfl); (case hr => first | (go_simp; done) | (go_simp; rfl)); intro kd hE_ w4 hbox hb; have Ekd := Lib.hid hE_; have Xkd := Lib.hid hbox; have Bkd := Lib.hid hb; clear hE_ hbox hb; have HF := Lib.hid (Four.make Bkq.out Bkt.out Bkc.out Bkd.out Ekq.out Ekt.out Ekc.out Ekd.out Xkq.out Xkt.out Xkc.out Xkd.out); clear Bkq Bkt Bkc Bkd Ekq Ekt Ekc Ekd Xkq Xkt Xkc Xkd; have g1 : w4.cell? ⟨kq, 1, none⟩ = some (.int .i64 a0_1) := (blk_cell HF.out.bg 1).trans rfl; have h1 : w4.cell? ⟨kt, 1, none⟩ = some (.int .i64 a1_1) := (blk_cell HF.out.bh 1).trans rfl; have h1f := blk_frozen HF.out.bh 1; have h2 : w4.cell? ⟨kt, 2, none⟩ = some (.int .i64 a1_2) := (blk_cell HF.out.bh 2).trans rfl; have h2f := blk_frozen HF.out.bh 2; have h3 : w4.cell? ⟨kt, 3, none⟩ = some (.int .i64 a1_3) := (blk_cell HF.out.bh 3).trans rfl))
  refine wp_gen (fun W_ => Four w kq kt kc kd #[.slice A0_0 l0_0.length c0_0, .int .i64 (a0_1), .int .i64 (a0_2)] #[.bool a1_0, .int .i64 (2), .int .i64 (a0_1), .int .i64 (a1_3), .int .i64 (a1_4), .int .i64 (a1_5)] #[.slice none 0 0, .int .i64 0, .int .i64 0] #[.bool false, .int .i64 0, .int .i64 0, .int .i64 0, .int .i64 0, .int .i64 0] W_) ?_ ?_
  · apply Four.to
    · repeat (first | (with_reducible exact HF.out) | (with_reducible apply Four.setG) | (with_reducible apply Four.setH))
    all_goals rfl
  rintro wa hFa
  have Ha := Lib.hid (Four.drew hFa)
  clear hFa HF g1 h1 h1f h2 h2f h3
  refine start_ (n := 4) (S := fun W_ => W_.heap[kq]? = some (.cells #[.slice A0_0 l0_0.length c0_0, .int .i64 (a0_1), .int .i64 (a0_2)] 24 (0, 0)) ∧ W_.heap[kt]? = some (.cells #[.bool a1_0, .int .i64 (2), .int .i64 (a0_1), .int .i64 (a1_3), .int .i64 (a1_4), .int .i64 (a1_5)] 27 (0, 0))) (ds := []) #[false, false, false, false] (by kernel_rfl) rfl rfl ⟨Ha.out.bg, Ha.out.bh⟩ (fun hHeld => ?_)
  refine take_ (i := 0) (N := some 43) (v := .agg #[.slice A0_0 l0_0.length c0_0, .int .i64 (a0_1), .int .i64 (a0_2)]) (a' := ?_) #[true, false, false, false] rfl rfl (by kernel_rfl) (fun _ _ _ h => h) (Or.inl ⟨by rfl, fun w' hs => run_load_row_ rfl kq rfl 24 _ _ hs.1 Tryd.underlying24 rfl (by kernel_rfl)⟩) hHeld ?_ ?_
  rotate_left
  · simp only [Act.put, List.setIfInBounds_toArray, List.set_cons_zero, List.set_cons_succ, i64_w, i32_w]
    rfl
  refine take_ (i := 1) (N := some 44) (v := .agg #[.bool a1_0, .int .i64 (2), .int .i64 (a0_1), .int .i64 (a1_3), .int .i64 (a1_4), .int .i64 (a1_5)]) (a' := ?_) #[true, true, false, false] rfl rfl (by kernel_rfl) (fun _ _ _ h => h) (Or.inl ⟨by rfl, fun w' hs => run_load_row_ rfl kt rfl 27 _ _ hs.2 Tryd.underlying27 rfl (by kernel_rfl)⟩) hHeld ?_ ?_
  rotate_left
  · simp only [Act.put, List.setIfInBounds_toArray, List.set_cons_zero, List.set_cons_succ, i64_w, i32_w]
    rfl
  refine one_ (i := 2) (N := none) #[true, true, true, false] rfl rfl (by kernel_rfl) (by decide) (fun K hK => ?_)
  refine skip_ (by rfl) rfl (run_store_row_ rfl kc rfl #[.slice A0_0 l0_0.length c0_0, .int .i64 (a0_1), .int .i64 (a0_2)] #[.slice none 0 0, .int .i64 0, .int .i64 0] 24 Ha.out.bc rfl (by kernel_rfl) rfl rfl) ?_
  have Hb := Lib.hid (Four.rowC Ha.out #[.slice A0_0 l0_0.length c0_0, .int .i64 (a0_1), .int .i64 (a0_2)])
  refine hK.out _ _ ⟨Hb.out.bg, Hb.out.bh⟩ (fun hHeld => ?_)
  clear hK K Ha
  refine one_ (i := 3) (N := none) #[true, true, true, true] rfl rfl (by kernel_rfl) (by decide) (fun K hK => ?_)
  refine skip_ (by rfl) rfl (run_store_row_ rfl kd rfl #[.bool a1_0, .int .i64 (2), .int .i64 (a0_1), .int .i64 (a1_3), .int .i64 (a1_4), .int .i64 (a1_5)] #[.bool false, .int .i64 0, .int .i64 0, .int .i64 0, .int .i64 0, .int .i64 0] 27 Hb.out.bd rfl (by kernel_rfl) rfl rfl) ?_
  have HD_ := Lib.hid (Four.rowD Hb.out #[.bool a1_0, .int .i64 (2), .int .i64 (a0_1), .int .i64 (a1_3), .int .i64 (a1_4), .int .i64 (a1_5)])
  refine hK.out _ _ ⟨HD_.out.bg, HD_.out.bh⟩ (fun hHeld => ?_)
  clear hK K Hb
  refine done_ (by kernel_rfl) ?_
  try go_wp2
  refine bodyPost_ret (results_list (rs := [.cell 4 24, .cell 5 27]) rfl (by simp) (.cell kc 24 _ (0, 0) _ rfl HD_.out.bc Tryd.underlying24 rfl (by kernel_rfl) (.cell kd 27 _ (0, 0) _ rfl HD_.out.bd Tryd.underlying27 rfl (by kernel_rfl) .nil))) rfl ?_
  exact ⟨rfl, HD_.out.B⟩

set_option maxHeartbeats 4000000 in
theorem ow_1g (A0_0 : Option Addr) (c0_0 : Nat) (l0_0 : List Int) (a0_1 : Int) (a0_2 : Int) (a1_0 : Bool) (a1_1 : Int) (a1_2 : Int) (a1_3 : Int) (a1_4 : Int) (a1_5 : Int) (e_ : a1_1 = 1) (c : ¬ a0_1 < a1_3) (c2 : ¬ a0_1 = a1_3) (w : World) (hr0_0 : Kd.C (Kd.int .i64) w A0_0 l0_0.length l0_0) (hc0_0 : l0_0.length ≤ c0_0) :
    Calls Tryd.prog 32 #[.agg #[.slice A0_0 l0_0.length c0_0, .int .i64 a0_1, .int .i64 a0_2], .agg #[.bool a1_0, .int .i64 a1_1, .int .i64 a1_2, .int .i64 a1_3, .int .i64 a1_4, .int .i64 a1_5]] w fun e w' => e = .returned (.tuple #[.agg #[.slice A0_0 l0_0.length c0_0, .int .i64 (a0_1), .int .i64 (a0_2)], .agg #[.bool a1_0, .int .i64 (3), .int .i64 (a0_1), .int .i64 (a1_3), .int .i64 (a1_4), .int .i64 (a1_5)]]) ∧ Below w.heap.size w w' := by
  have k0 : (a1_1 == 0) = false := by rw [e_]; rfl
  have k1 : (a1_1 == 1) = true := by rw [e_]; rfl
  clear e_
  have cb : decide (a0_1 < a1_3) = false := decide_eq_false c
  have cb2 : (a0_1 == a1_3) = false := by simp [c2]
  clear c c2
  have HR := Lib.hid hr0_0
  have Hc := Lib.hid hc0_0
  clear hr0_0 hc0_0
  go_enter Tryd.func32, Tryd.ntmps32
  go_wp2_with (first | ((with_reducible refine gate_dst (N := 2) rfl ?_); refine box_event ?hg (N := 2) ?hd (cs := #[.slice A0_0 l0_0.length c0_0, .int .i64 a0_1, .int .i64 a0_2]) (t := 24) ?hr ?_; (case hd => rfl); (case hg => rfl); (case hr => first | (go_simp; done) | (go_simp; rfl)); intro kq hE_ w1 hbox hb; have Ekq := Lib.hid hE_; have Xkq := Lib.hid hbox; have Bkq := Lib.hid hb; clear hE_ hbox hb) | ((with_reducible refine gate_dst (N := 3) rfl ?_); refine box_event ?hg (N := 3) ?hd (cs := #[.bool a1_0, .int .i64 a1_1, .int .i64 a1_2, .int .i64 a1_3, .int .i64 a1_4, .int .i64 a1_5]) (t := 27) ?hr ?_; (case hd => rfl); (case hg => rfl); (case hr => first | (go_simp; done) | (go_simp; rfl)); intro kt hE_ w2 hbox hb; have Ekt := Lib.hid hE_; have Xkt := Lib.hid hbox; have Bkt := Lib.hid hb; clear hE_ hbox hb) | ((with_reducible refine gate_dst (N := 4) rfl ?_); refine box_event ?hg (N := 4) ?hd (cs := #[.slice none 0 0, .int .i64 0, .int .i64 0]) (t := 24) ?hr ?_; (case hd => rfl); (case hg => rfl); (case hr => first | (go_simp; done) | (go_simp; rfl)); intro kc hE_ w3 hbox hb; have Ekc := Lib.hid hE_; have Xkc := Lib.hid hbox; have Bkc := Lib.hid hb; clear hE_ hbox hb) | ((with_reducible refine gate_dst (N := 5) rfl ?_); refine box_event ?hg (N := 5) ?hd (cs := #[.bool false, .int .i64 0, .int .i64 0, .int .i64 0, .int .i64 0, .int .i64 0]) (t := 27) ?hr ?_; (case hd => rfl); (case hg => rfl); (case hr => first | (go_simp; done) | (go_simp; rfl)); intro kd hE_ w4 hbox hb; have Ekd := Lib.hid hE_; have Xkd := Lib.hid hbox; have Bkd := Lib.hid hb; clear hE_ hbox hb; have HF := Lib.hid (Four.make Bkq.out Bkt.out Bkc.out Bkd.out Ekq.out Ekt.out Ekc.out Ekd.out Xkq.out Xkt.out Xkc.out Xkd.out); clear Bkq Bkt Bkc Bkd Ekq Ekt Ekc Ekd Xkq Xkt Xkc Xkd; have g1 : w4.cell? ⟨kq, 1, none⟩ = some (.int .i64 a0_1) := (blk_cell HF.out.bg 1).trans rfl; have h1 : w4.cell? ⟨kt, 1, none⟩ = some (.int .i64 a1_1) := (blk_cell HF.out.bh 1).trans rfl; have h1f := blk_frozen HF.out.bh 1; have h2 : w4.cell? ⟨kt, 2, none⟩ = some (.int .i64 a1_2) := (blk_cell HF.out.bh 2).trans rfl; have h2f := blk_frozen HF.out.bh 2; have h3 : w4.cell? ⟨kt, 3, none⟩ = some (.int .i64 a1_3) := (blk_cell HF.out.bh 3).trans rfl))
  refine wp_gen (fun W_ => Four w kq kt kc kd #[.slice A0_0 l0_0.length c0_0, .int .i64 (a0_1), .int .i64 (a0_2)] #[.bool a1_0, .int .i64 (3), .int .i64 (a0_1), .int .i64 (a1_3), .int .i64 (a1_4), .int .i64 (a1_5)] #[.slice none 0 0, .int .i64 0, .int .i64 0] #[.bool false, .int .i64 0, .int .i64 0, .int .i64 0, .int .i64 0, .int .i64 0] W_) ?_ ?_
  · apply Four.to
    · repeat (first | (with_reducible exact HF.out) | (with_reducible apply Four.setG) | (with_reducible apply Four.setH))
    all_goals rfl
  rintro wa hFa
  have Ha := Lib.hid (Four.drew hFa)
  clear hFa HF g1 h1 h1f h2 h2f h3
  refine start_ (n := 4) (S := fun W_ => W_.heap[kq]? = some (.cells #[.slice A0_0 l0_0.length c0_0, .int .i64 (a0_1), .int .i64 (a0_2)] 24 (0, 0)) ∧ W_.heap[kt]? = some (.cells #[.bool a1_0, .int .i64 (3), .int .i64 (a0_1), .int .i64 (a1_3), .int .i64 (a1_4), .int .i64 (a1_5)] 27 (0, 0))) (ds := []) #[false, false, false, false] (by kernel_rfl) rfl rfl ⟨Ha.out.bg, Ha.out.bh⟩ (fun hHeld => ?_)
  refine take_ (i := 0) (N := some 43) (v := .agg #[.slice A0_0 l0_0.length c0_0, .int .i64 (a0_1), .int .i64 (a0_2)]) (a' := ?_) #[true, false, false, false] rfl rfl (by kernel_rfl) (fun _ _ _ h => h) (Or.inl ⟨by rfl, fun w' hs => run_load_row_ rfl kq rfl 24 _ _ hs.1 Tryd.underlying24 rfl (by kernel_rfl)⟩) hHeld ?_ ?_
  rotate_left
  · simp only [Act.put, List.setIfInBounds_toArray, List.set_cons_zero, List.set_cons_succ, i64_w, i32_w]
    rfl
  refine take_ (i := 1) (N := some 44) (v := .agg #[.bool a1_0, .int .i64 (3), .int .i64 (a0_1), .int .i64 (a1_3), .int .i64 (a1_4), .int .i64 (a1_5)]) (a' := ?_) #[true, true, false, false] rfl rfl (by kernel_rfl) (fun _ _ _ h => h) (Or.inl ⟨by rfl, fun w' hs => run_load_row_ rfl kt rfl 27 _ _ hs.2 Tryd.underlying27 rfl (by kernel_rfl)⟩) hHeld ?_ ?_
  rotate_left
  · simp only [Act.put, List.setIfInBounds_toArray, List.set_cons_zero, List.set_cons_succ, i64_w, i32_w]
    rfl
  refine one_ (i := 2) (N := none) #[true, true, true, false] rfl rfl (by kernel_rfl) (by decide) (fun K hK => ?_)
  refine skip_ (by rfl) rfl (run_store_row_ rfl kc rfl #[.slice A0_0 l0_0.length c0_0, .int .i64 (a0_1), .int .i64 (a0_2)] #[.slice none 0 0, .int .i64 0, .int .i64 0] 24 Ha.out.bc rfl (by kernel_rfl) rfl rfl) ?_
  have Hb := Lib.hid (Four.rowC Ha.out #[.slice A0_0 l0_0.length c0_0, .int .i64 (a0_1), .int .i64 (a0_2)])
  refine hK.out _ _ ⟨Hb.out.bg, Hb.out.bh⟩ (fun hHeld => ?_)
  clear hK K Ha
  refine one_ (i := 3) (N := none) #[true, true, true, true] rfl rfl (by kernel_rfl) (by decide) (fun K hK => ?_)
  refine skip_ (by rfl) rfl (run_store_row_ rfl kd rfl #[.bool a1_0, .int .i64 (3), .int .i64 (a0_1), .int .i64 (a1_3), .int .i64 (a1_4), .int .i64 (a1_5)] #[.bool false, .int .i64 0, .int .i64 0, .int .i64 0, .int .i64 0, .int .i64 0] 27 Hb.out.bd rfl (by kernel_rfl) rfl rfl) ?_
  have HD_ := Lib.hid (Four.rowD Hb.out #[.bool a1_0, .int .i64 (3), .int .i64 (a0_1), .int .i64 (a1_3), .int .i64 (a1_4), .int .i64 (a1_5)])
  refine hK.out _ _ ⟨HD_.out.bg, HD_.out.bh⟩ (fun hHeld => ?_)
  clear hK K Hb
  refine done_ (by kernel_rfl) ?_
  try go_wp2
  refine bodyPost_ret (results_list (rs := [.cell 4 24, .cell 5 27]) rfl (by simp) (.cell kc 24 _ (0, 0) _ rfl HD_.out.bc Tryd.underlying24 rfl (by kernel_rfl) (.cell kd 27 _ (0, 0) _ rfl HD_.out.bd Tryd.underlying27 rfl (by kernel_rfl) .nil))) rfl ?_
  exact ⟨rfl, HD_.out.B⟩

set_option maxHeartbeats 4000000 in
theorem ow_2y (A0_0 : Option Addr) (c0_0 : Nat) (l0_0 : List Int) (a0_1 : Int) (a0_2 : Int) (a1_0 : Bool) (a1_1 : Int) (a1_2 : Int) (a1_3 : Int) (a1_4 : Int) (a1_5 : Int) (e_ : a1_1 = 2) (c : a0_1 = a1_2) (tp2 : Int) (e2 : wrap64 (a0_1 + 1) = tp2) (p : Int) (hp : trefoilref12_At.f l0_0 tp2 a0_2 a1_3 = some p) (w : World) (hr0_0 : Kd.C (Kd.int .i64) w A0_0 l0_0.length l0_0) (hc0_0 : l0_0.length ≤ c0_0) :
    Calls Tryd.prog 32 #[.agg #[.slice A0_0 l0_0.length c0_0, .int .i64 a0_1, .int .i64 a0_2], .agg #[.bool a1_0, .int .i64 a1_1, .int .i64 a1_2, .int .i64 a1_3, .int .i64 a1_4, .int .i64 a1_5]] w fun e w' => e = .returned (.tuple #[.agg #[.slice A0_0 l0_0.length c0_0, .int .i64 (wrap64 (a0_1 + 1)), .int .i64 (a0_2)], .agg #[.bool a1_0, .int .i64 (4), .int .i64 (a1_2), .int .i64 (a1_3), .int .i64 (p), .int .i64 (a1_5)]]) ∧ Below w.heap.size w w' := by
  have k0 : (a1_1 == 0) = false := by rw [e_]; rfl
  have k1 : (a1_1 == 1) = false := by rw [e_]; rfl
  have k2 : (a1_1 == 2) = true := by rw [e_]; rfl
  clear e_
  subst e2
  have cb : (a0_1 == a1_2) = true := by simp [c]
  have HP := Lib.hid hp
  clear c hp
  have HR := Lib.hid hr0_0
  have Hc := Lib.hid hc0_0
  clear hr0_0 hc0_0
  go_enter Tryd.func32, Tryd.ntmps32
  go_wp2_with (first | ((with_reducible refine gate_dst (N := 2) rfl ?_); refine box_event ?hg (N := 2) ?hd (cs := #[.slice A0_0 l0_0.length c0_0, .int .i64 a0_1, .int .i64 a0_2]) (t := 24) ?hr ?_; (case hd => rfl); (case hg => rfl); (case hr => first | (go_simp; done) | (go_simp; rfl)); intro kq hE_ w1 hbox hb; have Ekq := Lib.hid hE_; have Xkq := Lib.hid hbox; have Bkq := Lib.hid hb; clear hE_ hbox hb) | ((with_reducible refine gate_dst (N := 3) rfl ?_); refine box_event ?hg (N := 3) ?hd (cs := #[.bool a1_0, .int .i64 a1_1, .int .i64 a1_2, .int .i64 a1_3, .int .i64 a1_4, .int .i64 a1_5]) (t := 27) ?hr ?_; (case hd => rfl); (case hg => rfl); (case hr => first | (go_simp; done) | (go_simp; rfl)); intro kt hE_ w2 hbox hb; have Ekt := Lib.hid hE_; have Xkt := Lib.hid hbox; have Bkt := Lib.hid hb; clear hE_ hbox hb) | ((with_reducible refine gate_dst (N := 4) rfl ?_); refine box_event ?hg (N := 4) ?hd (cs := #[.slice none 0 0, .int .i64 0, .int .i64 0]) (t := 24) ?hr ?_; (case hd => rfl); (case hg => rfl); (case hr => first | (go_simp; done) | (go_simp; rfl)); intro kc hE_ w3 hbox hb; have Ekc := Lib.hid hE_; have Xkc := Lib.hid hbox; have Bkc := Lib.hid hb; clear hE_ hbox hb) | ((with_reducible refine gate_dst (N := 5) rfl ?_); refine box_event ?hg (N := 5) ?hd (cs := #[.bool false, .int .i64 0, .int .i64 0, .int .i64 0, .int .i64 0, .int .i64 0]) (t := 27) ?hr ?_; (case hd => rfl); (case hg => rfl); (case hr => first | (go_simp; done) | (go_simp; rfl)); intro kd hE_ w4 hbox hb; have Ekd := Lib.hid hE_; have Xkd := Lib.hid hbox; have Bkd := Lib.hid hb; clear hE_ hbox hb; have HF := Lib.hid (Four.make Bkq.out Bkt.out Bkc.out Bkd.out Ekq.out Ekt.out Ekc.out Ekd.out Xkq.out Xkt.out Xkc.out Xkd.out); clear Bkq Bkt Bkc Bkd Ekq Ekt Ekc Ekd Xkq Xkt Xkc Xkd; have g0 : w4.cell? ⟨kq, 0, none⟩ = some (.slice A0_0 l0_0.length c0_0) := (blk_cell HF.out.bg 0).trans rfl; have g1 : w4.cell? ⟨kq, 1, none⟩ = some (.int .i64 a0_1) := (blk_cell HF.out.bg 1).trans rfl; have g1f := blk_frozen HF.out.bg 1; have g2 : w4.cell? ⟨kq, 2, none⟩ = some (.int .i64 a0_2) := (blk_cell HF.out.bg 2).trans rfl; have h1 : w4.cell? ⟨kt, 1, none⟩ = some (.int .i64 a1_1) := (blk_cell HF.out.bh 1).trans rfl; have h2 : w4.cell? ⟨kt, 2, none⟩ = some (.int .i64 a1_2) := (blk_cell HF.out.bh 2).trans rfl; have h3 : w4.cell? ⟨kt, 3, none⟩ = some (.int .i64 a1_3) := (blk_cell HF.out.bh 3).trans rfl) | (go_at_call 35; refine Calls.mono (trefoilref12_At.calls A0_0 c0_0 l0_0 (wrap64 (a0_1 + 1)) a0_2 a1_3 p _ ?_ ?_ HP.out) ?_; exact Kd.C_below HR.out (by repeat (first | exact HF.out.B | refine below_set ?_ HF.out.eg | refine below_set ?_ HF.out.eh)); exact Hc.out; rintro _ w5 ⟨rfl, hb⟩; have HN := Lib.hid (show Four w kq kt kc kd #[.slice A0_0 l0_0.length c0_0, .int .i64 (wrap64 (a0_1 + 1)), .int .i64 (a0_2)] #[.bool a1_0, .int .i64 (a1_1), .int .i64 (a1_2), .int .i64 (a1_3), .int .i64 (a1_4), .int .i64 (a1_5)] #[.slice none 0 0, .int .i64 0, .int .i64 0] #[.bool false, .int .i64 0, .int .i64 0, .int .i64 0, .int .i64 0, .int .i64 0] w5 from Four.below (by apply Four.to; (repeat (first | (with_reducible exact HF.out) | (with_reducible apply Four.setG) | (with_reducible apply Four.setH))); all_goals rfl) hb); clear HF hb g0 g1 g1f g2 h1 h2 h3; have HF := Lib.hid HN.out; clear HN; have h1 : w5.cell? ⟨kt, 1, none⟩ = some (.int .i64 a1_1) := (blk_cell HF.out.bh 1).trans rfl; have h1f := blk_frozen HF.out.bh 1; have h4 : w5.cell? ⟨kt, 4, none⟩ = some (.int .i64 a1_4) := (blk_cell HF.out.bh 4).trans rfl; have h4f := blk_frozen HF.out.bh 4))
  refine wp_gen (fun W_ => Four w kq kt kc kd #[.slice A0_0 l0_0.length c0_0, .int .i64 (wrap64 (a0_1 + 1)), .int .i64 (a0_2)] #[.bool a1_0, .int .i64 (4), .int .i64 (a1_2), .int .i64 (a1_3), .int .i64 (p), .int .i64 (a1_5)] #[.slice none 0 0, .int .i64 0, .int .i64 0] #[.bool false, .int .i64 0, .int .i64 0, .int .i64 0, .int .i64 0, .int .i64 0] W_) ?_ ?_
  · apply Four.to
    · repeat (first | (with_reducible exact HF.out) | (with_reducible apply Four.setG) | (with_reducible apply Four.setH))
    all_goals rfl
  rintro wa hFa
  have Ha := Lib.hid (Four.drew hFa)
  clear hFa HF h1 h1f h4 h4f
  refine start_ (n := 4) (S := fun W_ => W_.heap[kq]? = some (.cells #[.slice A0_0 l0_0.length c0_0, .int .i64 (wrap64 (a0_1 + 1)), .int .i64 (a0_2)] 24 (0, 0)) ∧ W_.heap[kt]? = some (.cells #[.bool a1_0, .int .i64 (4), .int .i64 (a1_2), .int .i64 (a1_3), .int .i64 (p), .int .i64 (a1_5)] 27 (0, 0))) (ds := []) #[false, false, false, false] (by kernel_rfl) rfl rfl ⟨Ha.out.bg, Ha.out.bh⟩ (fun hHeld => ?_)
  refine take_ (i := 0) (N := some 64) (v := .agg #[.slice A0_0 l0_0.length c0_0, .int .i64 (wrap64 (a0_1 + 1)), .int .i64 (a0_2)]) (a' := ?_) #[true, false, false, false] rfl rfl (by kernel_rfl) (fun _ _ _ h => h) (Or.inl ⟨by rfl, fun w' hs => run_load_row_ rfl kq rfl 24 _ _ hs.1 Tryd.underlying24 rfl (by kernel_rfl)⟩) hHeld ?_ ?_
  rotate_left
  · simp only [Act.put, List.setIfInBounds_toArray, List.set_cons_zero, List.set_cons_succ, i64_w, i32_w]
    rfl
  refine take_ (i := 1) (N := some 65) (v := .agg #[.bool a1_0, .int .i64 (4), .int .i64 (a1_2), .int .i64 (a1_3), .int .i64 (p), .int .i64 (a1_5)]) (a' := ?_) #[true, true, false, false] rfl rfl (by kernel_rfl) (fun _ _ _ h => h) (Or.inl ⟨by rfl, fun w' hs => run_load_row_ rfl kt rfl 27 _ _ hs.2 Tryd.underlying27 rfl (by kernel_rfl)⟩) hHeld ?_ ?_
  rotate_left
  · simp only [Act.put, List.setIfInBounds_toArray, List.set_cons_zero, List.set_cons_succ, i64_w, i32_w]
    rfl
  refine one_ (i := 2) (N := none) #[true, true, true, false] rfl rfl (by kernel_rfl) (by decide) (fun K hK => ?_)
  refine skip_ (by rfl) rfl (run_store_row_ rfl kc rfl #[.slice A0_0 l0_0.length c0_0, .int .i64 (wrap64 (a0_1 + 1)), .int .i64 (a0_2)] #[.slice none 0 0, .int .i64 0, .int .i64 0] 24 Ha.out.bc rfl (by kernel_rfl) rfl rfl) ?_
  have Hb := Lib.hid (Four.rowC Ha.out #[.slice A0_0 l0_0.length c0_0, .int .i64 (wrap64 (a0_1 + 1)), .int .i64 (a0_2)])
  refine hK.out _ _ ⟨Hb.out.bg, Hb.out.bh⟩ (fun hHeld => ?_)
  clear hK K Ha
  refine one_ (i := 3) (N := none) #[true, true, true, true] rfl rfl (by kernel_rfl) (by decide) (fun K hK => ?_)
  refine skip_ (by rfl) rfl (run_store_row_ rfl kd rfl #[.bool a1_0, .int .i64 (4), .int .i64 (a1_2), .int .i64 (a1_3), .int .i64 (p), .int .i64 (a1_5)] #[.bool false, .int .i64 0, .int .i64 0, .int .i64 0, .int .i64 0, .int .i64 0] 27 Hb.out.bd rfl (by kernel_rfl) rfl rfl) ?_
  have HD_ := Lib.hid (Four.rowD Hb.out #[.bool a1_0, .int .i64 (4), .int .i64 (a1_2), .int .i64 (a1_3), .int .i64 (p), .int .i64 (a1_5)])
  refine hK.out _ _ ⟨HD_.out.bg, HD_.out.bh⟩ (fun hHeld => ?_)
  clear hK K Hb
  refine done_ (by kernel_rfl) ?_
  try go_wp2
  refine bodyPost_ret (results_list (rs := [.cell 4 24, .cell 5 27]) rfl (by simp) (.cell kc 24 _ (0, 0) _ rfl HD_.out.bc Tryd.underlying24 rfl (by kernel_rfl) (.cell kd 27 _ (0, 0) _ rfl HD_.out.bd Tryd.underlying27 rfl (by kernel_rfl) .nil))) rfl ?_
  exact ⟨rfl, HD_.out.B⟩

set_option maxHeartbeats 4000000 in
theorem ow_2n (A0_0 : Option Addr) (c0_0 : Nat) (l0_0 : List Int) (a0_1 : Int) (a0_2 : Int) (a1_0 : Bool) (a1_1 : Int) (a1_2 : Int) (a1_3 : Int) (a1_4 : Int) (a1_5 : Int) (e_ : a1_1 = 2) (c : ¬ a0_1 = a1_2) (w : World) (hr0_0 : Kd.C (Kd.int .i64) w A0_0 l0_0.length l0_0) (hc0_0 : l0_0.length ≤ c0_0) :
    Calls Tryd.prog 32 #[.agg #[.slice A0_0 l0_0.length c0_0, .int .i64 a0_1, .int .i64 a0_2], .agg #[.bool a1_0, .int .i64 a1_1, .int .i64 a1_2, .int .i64 a1_3, .int .i64 a1_4, .int .i64 a1_5]] w fun e w' => e = .returned (.tuple #[.agg #[.slice A0_0 l0_0.length c0_0, .int .i64 (a0_1), .int .i64 (a0_2)], .agg #[.bool a1_0, .int .i64 (3), .int .i64 (a1_2), .int .i64 (a1_3), .int .i64 (a1_4), .int .i64 (a1_5)]]) ∧ Below w.heap.size w w' := by
  have k0 : (a1_1 == 0) = false := by rw [e_]; rfl
  have k1 : (a1_1 == 1) = false := by rw [e_]; rfl
  have k2 : (a1_1 == 2) = true := by rw [e_]; rfl
  clear e_
  have cb : (a0_1 == a1_2) = false := by simp [c]
  clear c
  have HR := Lib.hid hr0_0
  have Hc := Lib.hid hc0_0
  clear hr0_0 hc0_0
  go_enter Tryd.func32, Tryd.ntmps32
  go_wp2_with (first | ((with_reducible refine gate_dst (N := 2) rfl ?_); refine box_event ?hg (N := 2) ?hd (cs := #[.slice A0_0 l0_0.length c0_0, .int .i64 a0_1, .int .i64 a0_2]) (t := 24) ?hr ?_; (case hd => rfl); (case hg => rfl); (case hr => first | (go_simp; done) | (go_simp; rfl)); intro kq hE_ w1 hbox hb; have Ekq := Lib.hid hE_; have Xkq := Lib.hid hbox; have Bkq := Lib.hid hb; clear hE_ hbox hb) | ((with_reducible refine gate_dst (N := 3) rfl ?_); refine box_event ?hg (N := 3) ?hd (cs := #[.bool a1_0, .int .i64 a1_1, .int .i64 a1_2, .int .i64 a1_3, .int .i64 a1_4, .int .i64 a1_5]) (t := 27) ?hr ?_; (case hd => rfl); (case hg => rfl); (case hr => first | (go_simp; done) | (go_simp; rfl)); intro kt hE_ w2 hbox hb; have Ekt := Lib.hid hE_; have Xkt := Lib.hid hbox; have Bkt := Lib.hid hb; clear hE_ hbox hb) | ((with_reducible refine gate_dst (N := 4) rfl ?_); refine box_event ?hg (N := 4) ?hd (cs := #[.slice none 0 0, .int .i64 0, .int .i64 0]) (t := 24) ?hr ?_; (case hd => rfl); (case hg => rfl); (case hr => first | (go_simp; done) | (go_simp; rfl)); intro kc hE_ w3 hbox hb; have Ekc := Lib.hid hE_; have Xkc := Lib.hid hbox; have Bkc := Lib.hid hb; clear hE_ hbox hb) | ((with_reducible refine gate_dst (N := 5) rfl ?_); refine box_event ?hg (N := 5) ?hd (cs := #[.bool false, .int .i64 0, .int .i64 0, .int .i64 0, .int .i64 0, .int .i64 0]) (t := 27) ?hr ?_; (case hd => rfl); (case hg => rfl); (case hr => first | (go_simp; done) | (go_simp; rfl)); intro kd hE_ w4 hbox hb; have Ekd := Lib.hid hE_; have Xkd := Lib.hid hbox; have Bkd := Lib.hid hb; clear hE_ hbox hb; have HF := Lib.hid (Four.make Bkq.out Bkt.out Bkc.out Bkd.out Ekq.out Ekt.out Ekc.out Ekd.out Xkq.out Xkt.out Xkc.out Xkd.out); clear Bkq Bkt Bkc Bkd Ekq Ekt Ekc Ekd Xkq Xkt Xkc Xkd; have g1 : w4.cell? ⟨kq, 1, none⟩ = some (.int .i64 a0_1) := (blk_cell HF.out.bg 1).trans rfl; have h1 : w4.cell? ⟨kt, 1, none⟩ = some (.int .i64 a1_1) := (blk_cell HF.out.bh 1).trans rfl; have h1f := blk_frozen HF.out.bh 1; have h2 : w4.cell? ⟨kt, 2, none⟩ = some (.int .i64 a1_2) := (blk_cell HF.out.bh 2).trans rfl))
  refine wp_gen (fun W_ => Four w kq kt kc kd #[.slice A0_0 l0_0.length c0_0, .int .i64 (a0_1), .int .i64 (a0_2)] #[.bool a1_0, .int .i64 (3), .int .i64 (a1_2), .int .i64 (a1_3), .int .i64 (a1_4), .int .i64 (a1_5)] #[.slice none 0 0, .int .i64 0, .int .i64 0] #[.bool false, .int .i64 0, .int .i64 0, .int .i64 0, .int .i64 0, .int .i64 0] W_) ?_ ?_
  · apply Four.to
    · repeat (first | (with_reducible exact HF.out) | (with_reducible apply Four.setG) | (with_reducible apply Four.setH))
    all_goals rfl
  rintro wa hFa
  have Ha := Lib.hid (Four.drew hFa)
  clear hFa HF g1 h1 h1f h2
  refine start_ (n := 4) (S := fun W_ => W_.heap[kq]? = some (.cells #[.slice A0_0 l0_0.length c0_0, .int .i64 (a0_1), .int .i64 (a0_2)] 24 (0, 0)) ∧ W_.heap[kt]? = some (.cells #[.bool a1_0, .int .i64 (3), .int .i64 (a1_2), .int .i64 (a1_3), .int .i64 (a1_4), .int .i64 (a1_5)] 27 (0, 0))) (ds := []) #[false, false, false, false] (by kernel_rfl) rfl rfl ⟨Ha.out.bg, Ha.out.bh⟩ (fun hHeld => ?_)
  refine take_ (i := 0) (N := some 64) (v := .agg #[.slice A0_0 l0_0.length c0_0, .int .i64 (a0_1), .int .i64 (a0_2)]) (a' := ?_) #[true, false, false, false] rfl rfl (by kernel_rfl) (fun _ _ _ h => h) (Or.inl ⟨by rfl, fun w' hs => run_load_row_ rfl kq rfl 24 _ _ hs.1 Tryd.underlying24 rfl (by kernel_rfl)⟩) hHeld ?_ ?_
  rotate_left
  · simp only [Act.put, List.setIfInBounds_toArray, List.set_cons_zero, List.set_cons_succ, i64_w, i32_w]
    rfl
  refine take_ (i := 1) (N := some 65) (v := .agg #[.bool a1_0, .int .i64 (3), .int .i64 (a1_2), .int .i64 (a1_3), .int .i64 (a1_4), .int .i64 (a1_5)]) (a' := ?_) #[true, true, false, false] rfl rfl (by kernel_rfl) (fun _ _ _ h => h) (Or.inl ⟨by rfl, fun w' hs => run_load_row_ rfl kt rfl 27 _ _ hs.2 Tryd.underlying27 rfl (by kernel_rfl)⟩) hHeld ?_ ?_
  rotate_left
  · simp only [Act.put, List.setIfInBounds_toArray, List.set_cons_zero, List.set_cons_succ, i64_w, i32_w]
    rfl
  refine one_ (i := 2) (N := none) #[true, true, true, false] rfl rfl (by kernel_rfl) (by decide) (fun K hK => ?_)
  refine skip_ (by rfl) rfl (run_store_row_ rfl kc rfl #[.slice A0_0 l0_0.length c0_0, .int .i64 (a0_1), .int .i64 (a0_2)] #[.slice none 0 0, .int .i64 0, .int .i64 0] 24 Ha.out.bc rfl (by kernel_rfl) rfl rfl) ?_
  have Hb := Lib.hid (Four.rowC Ha.out #[.slice A0_0 l0_0.length c0_0, .int .i64 (a0_1), .int .i64 (a0_2)])
  refine hK.out _ _ ⟨Hb.out.bg, Hb.out.bh⟩ (fun hHeld => ?_)
  clear hK K Ha
  refine one_ (i := 3) (N := none) #[true, true, true, true] rfl rfl (by kernel_rfl) (by decide) (fun K hK => ?_)
  refine skip_ (by rfl) rfl (run_store_row_ rfl kd rfl #[.bool a1_0, .int .i64 (3), .int .i64 (a1_2), .int .i64 (a1_3), .int .i64 (a1_4), .int .i64 (a1_5)] #[.bool false, .int .i64 0, .int .i64 0, .int .i64 0, .int .i64 0, .int .i64 0] 27 Hb.out.bd rfl (by kernel_rfl) rfl rfl) ?_
  have HD_ := Lib.hid (Four.rowD Hb.out #[.bool a1_0, .int .i64 (3), .int .i64 (a1_2), .int .i64 (a1_3), .int .i64 (a1_4), .int .i64 (a1_5)])
  refine hK.out _ _ ⟨HD_.out.bg, HD_.out.bh⟩ (fun hHeld => ?_)
  clear hK K Hb
  refine done_ (by kernel_rfl) ?_
  try go_wp2
  refine bodyPost_ret (results_list (rs := [.cell 4 24, .cell 5 27]) rfl (by simp) (.cell kc 24 _ (0, 0) _ rfl HD_.out.bc Tryd.underlying24 rfl (by kernel_rfl) (.cell kd 27 _ (0, 0) _ rfl HD_.out.bd Tryd.underlying27 rfl (by kernel_rfl) .nil))) rfl ?_
  exact ⟨rfl, HD_.out.B⟩

set_option maxHeartbeats 4000000 in
theorem ow_3 (A0_0 : Option Addr) (c0_0 : Nat) (l0_0 : List Int) (a0_1 : Int) (a0_2 : Int) (a1_0 : Bool) (a1_1 : Int) (a1_2 : Int) (a1_3 : Int) (a1_4 : Int) (a1_5 : Int) (e_ : a1_1 = 3) (w : World) (hr0_0 : Kd.C (Kd.int .i64) w A0_0 l0_0.length l0_0) (hc0_0 : l0_0.length ≤ c0_0) :
    Calls Tryd.prog 32 #[.agg #[.slice A0_0 l0_0.length c0_0, .int .i64 a0_1, .int .i64 a0_2], .agg #[.bool a1_0, .int .i64 a1_1, .int .i64 a1_2, .int .i64 a1_3, .int .i64 a1_4, .int .i64 a1_5]] w fun e w' => e = .returned (.tuple #[.agg #[.slice A0_0 l0_0.length c0_0, .int .i64 (a0_1), .int .i64 (wrap64 (a1_3 + 1))], .agg #[.bool a1_0, .int .i64 (a1_1), .int .i64 (a1_2), .int .i64 (a1_3), .int .i64 (a1_4), .int .i64 (2)]]) ∧ Below w.heap.size w w' := by
  have k0 : (a1_1 == 0) = false := by rw [e_]; rfl
  have k1 : (a1_1 == 1) = false := by rw [e_]; rfl
  have k2 : (a1_1 == 2) = false := by rw [e_]; rfl
  have k3 : (a1_1 == 3) = true := by rw [e_]; rfl
  clear e_
  have HR := Lib.hid hr0_0
  have Hc := Lib.hid hc0_0
  clear hr0_0 hc0_0
  go_enter Tryd.func32, Tryd.ntmps32
  go_wp2_with (first | ((with_reducible refine gate_dst (N := 2) rfl ?_); refine box_event ?hg (N := 2) ?hd (cs := #[.slice A0_0 l0_0.length c0_0, .int .i64 a0_1, .int .i64 a0_2]) (t := 24) ?hr ?_; (case hd => rfl); (case hg => rfl); (case hr => first | (go_simp; done) | (go_simp; rfl)); intro kq hE_ w1 hbox hb; have Ekq := Lib.hid hE_; have Xkq := Lib.hid hbox; have Bkq := Lib.hid hb; clear hE_ hbox hb) | ((with_reducible refine gate_dst (N := 3) rfl ?_); refine box_event ?hg (N := 3) ?hd (cs := #[.bool a1_0, .int .i64 a1_1, .int .i64 a1_2, .int .i64 a1_3, .int .i64 a1_4, .int .i64 a1_5]) (t := 27) ?hr ?_; (case hd => rfl); (case hg => rfl); (case hr => first | (go_simp; done) | (go_simp; rfl)); intro kt hE_ w2 hbox hb; have Ekt := Lib.hid hE_; have Xkt := Lib.hid hbox; have Bkt := Lib.hid hb; clear hE_ hbox hb) | ((with_reducible refine gate_dst (N := 4) rfl ?_); refine box_event ?hg (N := 4) ?hd (cs := #[.slice none 0 0, .int .i64 0, .int .i64 0]) (t := 24) ?hr ?_; (case hd => rfl); (case hg => rfl); (case hr => first | (go_simp; done) | (go_simp; rfl)); intro kc hE_ w3 hbox hb; have Ekc := Lib.hid hE_; have Xkc := Lib.hid hbox; have Bkc := Lib.hid hb; clear hE_ hbox hb) | ((with_reducible refine gate_dst (N := 5) rfl ?_); refine box_event ?hg (N := 5) ?hd (cs := #[.bool false, .int .i64 0, .int .i64 0, .int .i64 0, .int .i64 0, .int .i64 0]) (t := 27) ?hr ?_; (case hd => rfl); (case hg => rfl); (case hr => first | (go_simp; done) | (go_simp; rfl)); intro kd hE_ w4 hbox hb; have Ekd := Lib.hid hE_; have Xkd := Lib.hid hbox; have Bkd := Lib.hid hb; clear hE_ hbox hb; have HF := Lib.hid (Four.make Bkq.out Bkt.out Bkc.out Bkd.out Ekq.out Ekt.out Ekc.out Ekd.out Xkq.out Xkt.out Xkc.out Xkd.out); clear Bkq Bkt Bkc Bkd Ekq Ekt Ekc Ekd Xkq Xkt Xkc Xkd; have g2 : w4.cell? ⟨kq, 2, none⟩ = some (.int .i64 a0_2) := (blk_cell HF.out.bg 2).trans rfl; have g2f := blk_frozen HF.out.bg 2; have h1 : w4.cell? ⟨kt, 1, none⟩ = some (.int .i64 a1_1) := (blk_cell HF.out.bh 1).trans rfl; have h3 : w4.cell? ⟨kt, 3, none⟩ = some (.int .i64 a1_3) := (blk_cell HF.out.bh 3).trans rfl; have h5 : w4.cell? ⟨kt, 5, none⟩ = some (.int .i64 a1_5) := (blk_cell HF.out.bh 5).trans rfl; have h5f := blk_frozen HF.out.bh 5))
  refine wp_gen (fun W_ => Four w kq kt kc kd #[.slice A0_0 l0_0.length c0_0, .int .i64 (a0_1), .int .i64 (wrap64 (a1_3 + 1))] #[.bool a1_0, .int .i64 (a1_1), .int .i64 (a1_2), .int .i64 (a1_3), .int .i64 (a1_4), .int .i64 (2)] #[.slice none 0 0, .int .i64 0, .int .i64 0] #[.bool false, .int .i64 0, .int .i64 0, .int .i64 0, .int .i64 0, .int .i64 0] W_) ?_ ?_
  · apply Four.to
    · repeat (first | (with_reducible exact HF.out) | (with_reducible apply Four.setG) | (with_reducible apply Four.setH))
    all_goals rfl
  rintro wa hFa
  have Ha := Lib.hid (Four.drew hFa)
  clear hFa HF g2 g2f h1 h3 h5 h5f
  refine start_ (n := 4) (S := fun W_ => W_.heap[kq]? = some (.cells #[.slice A0_0 l0_0.length c0_0, .int .i64 (a0_1), .int .i64 (wrap64 (a1_3 + 1))] 24 (0, 0)) ∧ W_.heap[kt]? = some (.cells #[.bool a1_0, .int .i64 (a1_1), .int .i64 (a1_2), .int .i64 (a1_3), .int .i64 (a1_4), .int .i64 (2)] 27 (0, 0))) (ds := []) #[false, false, false, false] (by kernel_rfl) rfl rfl ⟨Ha.out.bg, Ha.out.bh⟩ (fun hHeld => ?_)
  refine take_ (i := 0) (N := some 75) (v := .agg #[.slice A0_0 l0_0.length c0_0, .int .i64 (a0_1), .int .i64 (wrap64 (a1_3 + 1))]) (a' := ?_) #[true, false, false, false] rfl rfl (by kernel_rfl) (fun _ _ _ h => h) (Or.inl ⟨by rfl, fun w' hs => run_load_row_ rfl kq rfl 24 _ _ hs.1 Tryd.underlying24 rfl (by kernel_rfl)⟩) hHeld ?_ ?_
  rotate_left
  · simp only [Act.put, List.setIfInBounds_toArray, List.set_cons_zero, List.set_cons_succ, i64_w, i32_w]
    rfl
  refine take_ (i := 1) (N := some 76) (v := .agg #[.bool a1_0, .int .i64 (a1_1), .int .i64 (a1_2), .int .i64 (a1_3), .int .i64 (a1_4), .int .i64 (2)]) (a' := ?_) #[true, true, false, false] rfl rfl (by kernel_rfl) (fun _ _ _ h => h) (Or.inl ⟨by rfl, fun w' hs => run_load_row_ rfl kt rfl 27 _ _ hs.2 Tryd.underlying27 rfl (by kernel_rfl)⟩) hHeld ?_ ?_
  rotate_left
  · simp only [Act.put, List.setIfInBounds_toArray, List.set_cons_zero, List.set_cons_succ, i64_w, i32_w]
    rfl
  refine one_ (i := 2) (N := none) #[true, true, true, false] rfl rfl (by kernel_rfl) (by decide) (fun K hK => ?_)
  refine skip_ (by rfl) rfl (run_store_row_ rfl kc rfl #[.slice A0_0 l0_0.length c0_0, .int .i64 (a0_1), .int .i64 (wrap64 (a1_3 + 1))] #[.slice none 0 0, .int .i64 0, .int .i64 0] 24 Ha.out.bc rfl (by kernel_rfl) rfl rfl) ?_
  have Hb := Lib.hid (Four.rowC Ha.out #[.slice A0_0 l0_0.length c0_0, .int .i64 (a0_1), .int .i64 (wrap64 (a1_3 + 1))])
  refine hK.out _ _ ⟨Hb.out.bg, Hb.out.bh⟩ (fun hHeld => ?_)
  clear hK K Ha
  refine one_ (i := 3) (N := none) #[true, true, true, true] rfl rfl (by kernel_rfl) (by decide) (fun K hK => ?_)
  refine skip_ (by rfl) rfl (run_store_row_ rfl kd rfl #[.bool a1_0, .int .i64 (a1_1), .int .i64 (a1_2), .int .i64 (a1_3), .int .i64 (a1_4), .int .i64 (2)] #[.bool false, .int .i64 0, .int .i64 0, .int .i64 0, .int .i64 0, .int .i64 0] 27 Hb.out.bd rfl (by kernel_rfl) rfl rfl) ?_
  have HD_ := Lib.hid (Four.rowD Hb.out #[.bool a1_0, .int .i64 (a1_1), .int .i64 (a1_2), .int .i64 (a1_3), .int .i64 (a1_4), .int .i64 (2)])
  refine hK.out _ _ ⟨HD_.out.bg, HD_.out.bh⟩ (fun hHeld => ?_)
  clear hK K Hb
  refine done_ (by kernel_rfl) ?_
  try go_wp2
  refine bodyPost_ret (results_list (rs := [.cell 4 24, .cell 5 27]) rfl (by simp) (.cell kc 24 _ (0, 0) _ rfl HD_.out.bc Tryd.underlying24 rfl (by kernel_rfl) (.cell kd 27 _ (0, 0) _ rfl HD_.out.bd Tryd.underlying27 rfl (by kernel_rfl) .nil))) rfl ?_
  exact ⟨rfl, HD_.out.B⟩

set_option maxHeartbeats 4000000 in
theorem ow_o (A0_0 : Option Addr) (c0_0 : Nat) (l0_0 : List Int) (a0_1 : Int) (a0_2 : Int) (a1_0 : Bool) (a1_1 : Int) (a1_2 : Int) (a1_3 : Int) (a1_4 : Int) (a1_5 : Int) (c0 : ¬ a1_1 = 0) (c1 : ¬ a1_1 = 1) (c2 : ¬ a1_1 = 2) (c3 : ¬ a1_1 = 3) (w : World) (hr0_0 : Kd.C (Kd.int .i64) w A0_0 l0_0.length l0_0) (hc0_0 : l0_0.length ≤ c0_0) :
    Calls Tryd.prog 32 #[.agg #[.slice A0_0 l0_0.length c0_0, .int .i64 a0_1, .int .i64 a0_2], .agg #[.bool a1_0, .int .i64 a1_1, .int .i64 a1_2, .int .i64 a1_3, .int .i64 a1_4, .int .i64 a1_5]] w fun e w' => e = .returned (.tuple #[.agg #[.slice A0_0 l0_0.length c0_0, .int .i64 (a0_1), .int .i64 (wrap64 (a1_3 + 1))], .agg #[.bool a1_0, .int .i64 (a1_1), .int .i64 (a1_2), .int .i64 (a1_3), .int .i64 (a1_4), .int .i64 (1)]]) ∧ Below w.heap.size w w' := by
  have k0 : (a1_1 == 0) = false := by simpa using c0
  have k1 : (a1_1 == 1) = false := by simpa using c1
  have k2 : (a1_1 == 2) = false := by simpa using c2
  have k3 : (a1_1 == 3) = false := by simpa using c3
  clear c0 c1 c2 c3
  have HR := Lib.hid hr0_0
  have Hc := Lib.hid hc0_0
  clear hr0_0 hc0_0
  go_enter Tryd.func32, Tryd.ntmps32
  go_wp2_with (first | ((with_reducible refine gate_dst (N := 2) rfl ?_); refine box_event ?hg (N := 2) ?hd (cs := #[.slice A0_0 l0_0.length c0_0, .int .i64 a0_1, .int .i64 a0_2]) (t := 24) ?hr ?_; (case hd => rfl); (case hg => rfl); (case hr => first | (go_simp; done) | (go_simp; rfl)); intro kq hE_ w1 hbox hb; have Ekq := Lib.hid hE_; have Xkq := Lib.hid hbox; have Bkq := Lib.hid hb; clear hE_ hbox hb) | ((with_reducible refine gate_dst (N := 3) rfl ?_); refine box_event ?hg (N := 3) ?hd (cs := #[.bool a1_0, .int .i64 a1_1, .int .i64 a1_2, .int .i64 a1_3, .int .i64 a1_4, .int .i64 a1_5]) (t := 27) ?hr ?_; (case hd => rfl); (case hg => rfl); (case hr => first | (go_simp; done) | (go_simp; rfl)); intro kt hE_ w2 hbox hb; have Ekt := Lib.hid hE_; have Xkt := Lib.hid hbox; have Bkt := Lib.hid hb; clear hE_ hbox hb) | ((with_reducible refine gate_dst (N := 4) rfl ?_); refine box_event ?hg (N := 4) ?hd (cs := #[.slice none 0 0, .int .i64 0, .int .i64 0]) (t := 24) ?hr ?_; (case hd => rfl); (case hg => rfl); (case hr => first | (go_simp; done) | (go_simp; rfl)); intro kc hE_ w3 hbox hb; have Ekc := Lib.hid hE_; have Xkc := Lib.hid hbox; have Bkc := Lib.hid hb; clear hE_ hbox hb) | ((with_reducible refine gate_dst (N := 5) rfl ?_); refine box_event ?hg (N := 5) ?hd (cs := #[.bool false, .int .i64 0, .int .i64 0, .int .i64 0, .int .i64 0, .int .i64 0]) (t := 27) ?hr ?_; (case hd => rfl); (case hg => rfl); (case hr => first | (go_simp; done) | (go_simp; rfl)); intro kd hE_ w4 hbox hb; have Ekd := Lib.hid hE_; have Xkd := Lib.hid hbox; have Bkd := Lib.hid hb; clear hE_ hbox hb; have HF := Lib.hid (Four.make Bkq.out Bkt.out Bkc.out Bkd.out Ekq.out Ekt.out Ekc.out Ekd.out Xkq.out Xkt.out Xkc.out Xkd.out); clear Bkq Bkt Bkc Bkd Ekq Ekt Ekc Ekd Xkq Xkt Xkc Xkd; have g2 : w4.cell? ⟨kq, 2, none⟩ = some (.int .i64 a0_2) := (blk_cell HF.out.bg 2).trans rfl; have g2f := blk_frozen HF.out.bg 2; have h1 : w4.cell? ⟨kt, 1, none⟩ = some (.int .i64 a1_1) := (blk_cell HF.out.bh 1).trans rfl; have h3 : w4.cell? ⟨kt, 3, none⟩ = some (.int .i64 a1_3) := (blk_cell HF.out.bh 3).trans rfl; have h5 : w4.cell? ⟨kt, 5, none⟩ = some (.int .i64 a1_5) := (blk_cell HF.out.bh 5).trans rfl; have h5f := blk_frozen HF.out.bh 5))
  refine wp_gen (fun W_ => Four w kq kt kc kd #[.slice A0_0 l0_0.length c0_0, .int .i64 (a0_1), .int .i64 (wrap64 (a1_3 + 1))] #[.bool a1_0, .int .i64 (a1_1), .int .i64 (a1_2), .int .i64 (a1_3), .int .i64 (a1_4), .int .i64 (1)] #[.slice none 0 0, .int .i64 0, .int .i64 0] #[.bool false, .int .i64 0, .int .i64 0, .int .i64 0, .int .i64 0, .int .i64 0] W_) ?_ ?_
  · apply Four.to
    · repeat (first | (with_reducible exact HF.out) | (with_reducible apply Four.setG) | (with_reducible apply Four.setH))
    all_goals rfl
  rintro wa hFa
  have Ha := Lib.hid (Four.drew hFa)
  clear hFa HF g2 g2f h1 h3 h5 h5f
  refine start_ (n := 4) (S := fun W_ => W_.heap[kq]? = some (.cells #[.slice A0_0 l0_0.length c0_0, .int .i64 (a0_1), .int .i64 (wrap64 (a1_3 + 1))] 24 (0, 0)) ∧ W_.heap[kt]? = some (.cells #[.bool a1_0, .int .i64 (a1_1), .int .i64 (a1_2), .int .i64 (a1_3), .int .i64 (a1_4), .int .i64 (1)] 27 (0, 0))) (ds := []) #[false, false, false, false] (by kernel_rfl) rfl rfl ⟨Ha.out.bg, Ha.out.bh⟩ (fun hHeld => ?_)
  refine take_ (i := 0) (N := some 75) (v := .agg #[.slice A0_0 l0_0.length c0_0, .int .i64 (a0_1), .int .i64 (wrap64 (a1_3 + 1))]) (a' := ?_) #[true, false, false, false] rfl rfl (by kernel_rfl) (fun _ _ _ h => h) (Or.inl ⟨by rfl, fun w' hs => run_load_row_ rfl kq rfl 24 _ _ hs.1 Tryd.underlying24 rfl (by kernel_rfl)⟩) hHeld ?_ ?_
  rotate_left
  · simp only [Act.put, List.setIfInBounds_toArray, List.set_cons_zero, List.set_cons_succ, i64_w, i32_w]
    rfl
  refine take_ (i := 1) (N := some 76) (v := .agg #[.bool a1_0, .int .i64 (a1_1), .int .i64 (a1_2), .int .i64 (a1_3), .int .i64 (a1_4), .int .i64 (1)]) (a' := ?_) #[true, true, false, false] rfl rfl (by kernel_rfl) (fun _ _ _ h => h) (Or.inl ⟨by rfl, fun w' hs => run_load_row_ rfl kt rfl 27 _ _ hs.2 Tryd.underlying27 rfl (by kernel_rfl)⟩) hHeld ?_ ?_
  rotate_left
  · simp only [Act.put, List.setIfInBounds_toArray, List.set_cons_zero, List.set_cons_succ, i64_w, i32_w]
    rfl
  refine one_ (i := 2) (N := none) #[true, true, true, false] rfl rfl (by kernel_rfl) (by decide) (fun K hK => ?_)
  refine skip_ (by rfl) rfl (run_store_row_ rfl kc rfl #[.slice A0_0 l0_0.length c0_0, .int .i64 (a0_1), .int .i64 (wrap64 (a1_3 + 1))] #[.slice none 0 0, .int .i64 0, .int .i64 0] 24 Ha.out.bc rfl (by kernel_rfl) rfl rfl) ?_
  have Hb := Lib.hid (Four.rowC Ha.out #[.slice A0_0 l0_0.length c0_0, .int .i64 (a0_1), .int .i64 (wrap64 (a1_3 + 1))])
  refine hK.out _ _ ⟨Hb.out.bg, Hb.out.bh⟩ (fun hHeld => ?_)
  clear hK K Ha
  refine one_ (i := 3) (N := none) #[true, true, true, true] rfl rfl (by kernel_rfl) (by decide) (fun K hK => ?_)
  refine skip_ (by rfl) rfl (run_store_row_ rfl kd rfl #[.bool a1_0, .int .i64 (a1_1), .int .i64 (a1_2), .int .i64 (a1_3), .int .i64 (a1_4), .int .i64 (1)] #[.bool false, .int .i64 0, .int .i64 0, .int .i64 0, .int .i64 0, .int .i64 0] 27 Hb.out.bd rfl (by kernel_rfl) rfl rfl) ?_
  have HD_ := Lib.hid (Four.rowD Hb.out #[.bool a1_0, .int .i64 (a1_1), .int .i64 (a1_2), .int .i64 (a1_3), .int .i64 (a1_4), .int .i64 (1)])
  refine hK.out _ _ ⟨HD_.out.bg, HD_.out.bh⟩ (fun hHeld => ?_)
  clear hK K Hb
  refine done_ (by kernel_rfl) ?_
  try go_wp2
  refine bodyPost_ret (results_list (rs := [.cell 4 24, .cell 5 27]) rfl (by simp) (.cell kc 24 _ (0, 0) _ rfl HD_.out.bc Tryd.underlying24 rfl (by kernel_rfl) (.cell kd 27 _ (0, 0) _ rfl HD_.out.bd Tryd.underlying27 rfl (by kernel_rfl) .nil))) rfl ?_
  exact ⟨rfl, HD_.out.B⟩
end Go.Proofs.YtdmgigicbppjkaaDoor.Q
