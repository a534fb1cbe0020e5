import Derived.Test.YteodhffgnkdcfaaQx0
import Derived.Test.YteodhffgnkdcfaaQx6
import Derived.Test.YteodhffgnkdcfaaQx7
namespace Go.Proofs.Yteodhffgnkdcfaa.Q
open Go.RowKit Go.Proofs.YteodhffgnkdcfaaW.PrintWords Go.Proofs.YteodhffgnkdcfaaW.PrintLast Go.Proofs.YteodhffgnkdcfaaW.PrintMore
attribute [local go_sem] max2_int min2_int max_two min_two max_three min_three max_four min_four
set_option linter.unusedVariables false
set_option linter.unusedSimpArgs false
set_option maxHeartbeats 8000000 in
theorem own_calls (A0 : Option Addr) (c0 : Nat) (l0 : List S27) (run : Int) (w : World) (hr0 : Kd.C k27 w A0 l0.length l0) (hc0 : l0.length ≤ c0) (hn : l0.length ≤ 1000) (hne : ∀ x ∈ l0, x.f2 ≠ [] ∧ x.f2.length ≤ 1000) :
    Calls Try.prog 27 #[.agg #[.slice A0 l0.length c0, .int .i64 run]] w fun e w' => ∃ v rows b, e = .returned (.agg #[v, .int .i64 run]) ∧ OwnUpto w w' v l0 rows b l0.length := by
  have HR := Lib.hid hr0
  have Hc := Lib.hid hc0
  have HE := Lib.hid hne
  have HS := Lib.hid (Sx.start w)
  clear hr0 hc0 hne
  go_enter Try.func27, Try.ntmps27
  go_wp2_with (first | ((with_reducible refine gate_dst (N := 1) rfl ?_); refine box_event ?hg (N := 1) ?hd (cs := #[.slice A0 l0.length c0, .int .i64 run]) (t := 24) ?hr ?_; (case hd => rfl); (case hg => rfl); (case hr => first | (go_simp; done) | (go_simp; rfl)); intro kl hE_ w1 hbox hb; have HN := Lib.hid (show Sx w [(kl, #[.slice A0 l0.length c0, .int .i64 run], 24)] [] w1 from HS.out.box hE_ hbox hb); clear HS hE_ hbox hb; have HS := Lib.hid HN.out; clear HN; have k0 : w1.cell? ⟨kl, 0, none⟩ = some (.slice A0 l0.length c0) := (blk_cell (HS.out.get 0 rfl) 0).trans rfl) | ((with_reducible refine gate_dst (N := 2) rfl ?_); refine box_event ?hg (N := 2) ?hd (cs := #[.slice none 0 0, .int .i64 0]) (t := 24) ?hr ?_; (case hd => rfl); (case hg => rfl); (case hr => first | (go_simp; done) | (go_simp; rfl)); intro kc hE_ w2 hbox hb; have HN := Lib.hid (show Sx w [(kc, #[.slice none 0 0, .int .i64 0], 24), (kl, #[.slice A0 l0.length c0, .int .i64 run], 24)] [] w2 from HS.out.box hE_ hbox hb); clear HS hE_ hbox hb; have HS := Lib.hid HN.out; clear HN; clear k0; have k0 : w2.cell? ⟨kl, 0, none⟩ = some (.slice A0 l0.length c0) := (blk_cell (HS.out.get 1 rfl) 0).trans rfl) | (go_at_call 42; refine Calls.mono (cloneJobs_calls A0 c0 l0 _ w (Kd.C_below HR.out HS.out.B) HR.out HS.out.B Hc.out hn) ?_; rintro e_ w3 ⟨v, rows, rfl, hR_, hlen_, hf_, hb⟩; obtain ⟨A_, c_, hv_⟩ := Kd.R_slice hR_; rw [hlen_] at hv_; subst hv_; have HO := Lib.hid (OwnUpto.start (w := w) (below_step HS.out.B hb) (Kd.R_lower hR_ HS.out.B.size) hlen_ (fun j x c hx hc => hf_ j x c hx hc)); have HN := Lib.hid (show Sx w [(kc, #[.slice none 0 0, .int .i64 0], 24), (kl, #[.slice A0 l0.length c0, .int .i64 run], 24)] [] w3 from HS.out.below hb); clear HS hb; have HS := Lib.hid HN.out; clear HN; clear k0 hR_ hlen_ hf_; have k0 : w3.cell? ⟨kl, 0, none⟩ = some (.slice A0 l0.length c0) := (blk_cell (HS.out.get 1 rfl) 0).trans rfl) | ((with_reducible refine gate_store (t := 22) (p := 7) (v := .tmp 6) ?hgs ?_); (case hgs => rfl); refine wpList_store_at rfl rfl 22 7 (.tmp 6) rfl kl 0 rfl 24 #[.slice A0 l0.length c0, .int .i64 run] #[.slice A_ l0.length c_, .int .i64 run] [.slice A_ l0.length c_] (HS.out.get 1 rfl) (by rfl) (by kernel_rfl) (Nat.le_of_ble_eq_true rfl) rfl rfl (fun W_ => Sx w [(kc, #[.slice none 0 0, .int .i64 0], 24), (kl, #[.slice A_ l0.length c_, .int .i64 run], 24)] [] W_ ∧ OwnUpto w W_ (.slice A_ l0.length c_) l0 rows (fun _ => 0) 0) (⟨HS.out.row 1 rfl #[.slice A_ l0.length c_, .int .i64 run], HO.out.other (HS.out.bx 1 _ rfl).2 (by intro e; have h1 := HS.out.get 1 rfl; obtain ⟨cells, h2⟩ := Kd.R_typed HO.out.row kl e.symm; rw [h1] at h2; cases h2) (fun j hj => by omega) _⟩) ?_; rintro w4 ⟨he_, hx_⟩; clear HS; have HS := Lib.hid he_; clear he_; clear HO; have HO := Lib.hid hx_; clear hx_; (try clear k0); have k0 : w4.cell? ⟨kl, 0, none⟩ = some (.slice A_ l0.length c_) := (blk_cell (HS.out.get 1 rfl) 0).trans rfl))
  go_loopw [11] (fun v11 w' => ∃ (i_ : Nat) (rows_ : List (List Value)) (b_ : Nat → Nat), i_ ≤ l0.length ∧ v11 = .int .i64 i_ ∧ Aside0 (Sx w [(kc, #[.slice none 0 0, .int .i64 0], 24), (kl, #[.slice A_ l0.length c_, .int .i64 run], 24)] [] w') ∧ Aside0 (OwnUpto w w' (.slice A_ l0.length c_) l0 rows_ b_ i_)) (fun v11 _ => l0.length - (intOf v11).toNat)
  case atStart => exact ⟨0, rows, fun _ => 0, Nat.zero_le _, rfl, ⟨HS.out⟩, ⟨HO.out⟩⟩
  case round =>
    clear k0 HS HO
    obtain ⟨i_, rows_, b_, hi, rfl, HS0, HO⟩ := hrel
    have HS := Lib.hid HS0.out
    clear HS0
    by_cases ci : i_ < l0.length
    case pos =>
      have cib : decide ((i_ : Int) < (l0.length : Int)) = true := decide_eq_true (by omega)
      have cib2 : decide (i_ < l0.length) = true := decide_eq_true ci
      obtain ⟨g, cap, A, c, hv, hcap, hg1, hg2, hrow, hcl, hC, hcell⟩ := HO.out.at ci
      injection hv with hv _ hcc
      subst hv hcc
      have hx := HE.out _ (show (l0.getD i_ z27) ∈ l0 by rw [List.getD_eq_getElem?_getD, List.getElem?_eq_getElem ci]; exact List.getElem_mem ci)
      have HC := Lib.hid hC
      have Hcl := Lib.hid hcl
      have Hx := Lib.hid hx
      clear hrow hcl hC hx
      obtain ⟨x, hx⟩ : ∃ x, (l0.getD i_ z27) = x := ⟨_, rfl⟩
      have HX := Lib.hid hx
      rw [hx] at hcell HC Hcl Hx
      clear hx
      have k0 : wr.cell? ⟨kl, 0, none⟩ = some (.slice (some ⟨g, 0, none⟩) l0.length c_) := (blk_cell (HS.out.get 1 rfl) 0).trans rfl
      have Hg := Lib.hid hg1
      clear hg1 hg2
      go_wp2
      have HN := Lib.hid (HS.out.below (below_drew1 (Below.refl _ _)))
      clear HS
      have HS := Lib.hid HN.out
      clear HN
      refine start_ (n := 13) (S := fun W_ => W_.heap[kl]? = some (.cells #[.slice (some ⟨g, 0, none⟩) l0.length c_, .int .i64 run] 24 (0, 0)) ∧ W_.cell? ⟨g, i_ * 3 + 2, none⟩ = some (.slice A x.f2.length c)) (ds := [12]) #[false, false, false, false, false, false, false, false, false, false, false, false, false] (by kernel_rfl) rfl rfl ⟨HS.out.get 1 rfl, hcell⟩ (fun hHeld => ?_)
      refine pure_ (i := 0) (N := some 14) (v := .pointer (some ⟨kl, 0, none⟩)) (a' := ?_) #[true, false, false, false, false, false, false, false, false, false, false, false, false] rfl rfl (by kernel_rfl) (fun _ _ _ h => h) (Or.inl ⟨by rfl, fun w' => by go_simp⟩) ?_ ?_
      rotate_left
      · simp only [Act.put, List.setIfInBounds_toArray, List.set_cons_zero, List.set_cons_succ, i64_w, i32_w]
        rfl
      refine take_ (i := 1) (N := some 15) (v := .slice (some ⟨g, 0, none⟩) l0.length c_) (a' := ?_) #[true, true, false, false, false, false, false, false, false, false, false, false, false] rfl rfl (by kernel_rfl) (fun _ _ _ h => h) (Or.inl ⟨by rfl, fun w' hs => by have s0 : w'.cell? ⟨kl, 0, none⟩ = some (.slice (some ⟨g, 0, none⟩) l0.length c_) := (blk_cell hs.1 0).trans rfl; go_simp⟩) hHeld ?_ ?_
      rotate_left
      · simp only [Act.put, List.setIfInBounds_toArray, List.set_cons_zero, List.set_cons_succ, i64_w, i32_w]
        rfl
      refine pure_ (i := 2) (N := some 16) (v := .int .i64 i_) (a' := ?_) #[true, true, true, false, false, false, false, false, false, false, false, false, false] rfl rfl (by kernel_rfl) (fun _ _ _ h => h) (Or.inl ⟨by rfl, fun w' => by go_simp⟩) ?_ ?_
      rotate_left
      · simp only [Act.put, List.setIfInBounds_toArray, List.set_cons_zero, List.set_cons_succ, i64_w, i32_w]
        rfl
      refine pure_ (i := 3) (N := some 17) (v := .pointer (some ⟨kl, 0, none⟩)) (a' := ?_) #[true, true, true, true, false, false, false, false, false, false, false, false, false] rfl rfl (by kernel_rfl) (fun _ _ _ h => h) (Or.inl ⟨by rfl, fun w' => by go_simp⟩) ?_ ?_
      rotate_left
      · simp only [Act.put, List.setIfInBounds_toArray, List.set_cons_zero, List.set_cons_succ, i64_w, i32_w]
        rfl
      refine take_ (i := 4) (N := some 18) (v := .slice (some ⟨g, 0, none⟩) l0.length c_) (a' := ?_) #[true, true, true, true, true, false, false, false, false, false, false, false, false] rfl rfl (by kernel_rfl) (fun _ _ _ h => h) (Or.inl ⟨by rfl, fun w' hs => by have s0 : w'.cell? ⟨kl, 0, none⟩ = some (.slice (some ⟨g, 0, none⟩) l0.length c_) := (blk_cell hs.1 0).trans rfl; go_simp⟩) hHeld ?_ ?_
      rotate_left
      · simp only [Act.put, List.setIfInBounds_toArray, List.set_cons_zero, List.set_cons_succ, i64_w, i32_w]
        rfl
      refine pure_ (i := 5) (N := some 19) (v := .int .i64 i_) (a' := ?_) #[true, true, true, true, true, true, false, false, false, false, false, false, false] rfl rfl (by kernel_rfl) (fun _ _ _ h => h) (Or.inl ⟨by rfl, fun w' => by go_simp⟩) ?_ ?_
      rotate_left
      · simp only [Act.put, List.setIfInBounds_toArray, List.set_cons_zero, List.set_cons_succ, i64_w, i32_w]
        rfl
      refine pure_ (i := 6) (N := some 20) (v := .pointer (some ⟨g, i_ * 3, none⟩)) (a' := ?_) #[true, true, true, true, true, true, true, false, false, false, false, false, false] rfl rfl (by kernel_rfl) (fun _ _ _ h => h) (Or.inl ⟨by rfl, fun w' => by go_simp⟩) ?_ ?_
      rotate_left
      · simp only [Act.put, List.setIfInBounds_toArray, List.set_cons_zero, List.set_cons_succ, i64_w, i32_w]
        rfl
      refine pure_ (i := 7) (N := some 21) (v := .pointer (some ⟨g, i_ * 3 + 2, none⟩)) (a' := ?_) #[true, true, true, true, true, true, true, true, false, false, false, false, false] rfl rfl (by kernel_rfl) (fun _ _ _ h => h) (Or.inl ⟨by rfl, fun w' => by go_simp⟩) ?_ ?_
      rotate_left
      · simp only [Act.put, List.setIfInBounds_toArray, List.set_cons_zero, List.set_cons_succ, i64_w, i32_w]
        rfl
      refine take_ (i := 8) (N := some 22) (v := .slice A x.f2.length c) (a' := ?_) #[true, true, true, true, true, true, true, true, true, false, false, false, false] rfl rfl (by kernel_rfl) (fun _ _ _ h => h) (Or.inl ⟨by rfl, fun w' hs => by have s0 := hs.2; go_simp⟩) hHeld ?_ ?_
      rotate_left
      · simp only [Act.put, List.setIfInBounds_toArray, List.set_cons_zero, List.set_cons_succ, i64_w, i32_w]
        rfl
      refine one_ (i := 9) (N := some 23) #[true, true, true, true, true, true, true, true, true, true, false, false, false] rfl rfl (by kernel_rfl) (by decide) (fun K hK => ?_)
      refine goes_ Try.func28 (by kernel_rfl) rfl #[.slice A x.f2.length c] (by rfl) rfl rfl (by (try simp only [List.map_toArray, List.map_cons, List.map_nil]); first | done | rfl) ?_
      refine Calls.mono (slices_Clone_int_int.calls A c x.f2 x.f2 _ HC.out Hcl.out (by unfold slices_Clone_int_int.f; rw [if_pos (by have := Hx.out.2; omega)])) ?_
      rintro e_ W_ ⟨u, rfl, hu_, hb⟩
      refine ⟨_, rfl, ?_⟩
      have HB1 := Lib.hid (below_step (below_drew1 (Below.refl _ wr)) hb)
      have HU := Lib.hid hu_
      have HN := Lib.hid (HS.out.below hb)
      clear HS
      have HS := Lib.hid HN.out
      clear HN
      refine hK.out _ _ ⟨HS.out.get 1 rfl, (hb.cell (World.block_lt_of_cell? _ _ hHeld.2)).trans hHeld.2⟩ (fun hHeld => ?_)
      clear hK K hb hu_
      refine norm_ (a' := ?_) ?_ ?_
      rotate_left
      · show Act.put _ (some 23) _ = _
        simp only [Act.put, List.setIfInBounds_toArray, List.set_cons_zero, List.set_cons_succ, i64_w, i32_w]
        rfl
      refine pure_ (i := 10) (N := some 24) (v := .pointer (some ⟨g, i_ * 3, none⟩)) (a' := ?_) #[true, true, true, true, true, true, true, true, true, true, true, false, false] rfl rfl (by kernel_rfl) (fun _ _ _ h => h) (Or.inl ⟨by rfl, fun w' => by go_simp⟩) ?_ ?_
      rotate_left
      · simp only [Act.put, List.setIfInBounds_toArray, List.set_cons_zero, List.set_cons_succ, i64_w, i32_w]
        rfl
      refine pure_ (i := 11) (N := some 25) (v := .pointer (some ⟨g, i_ * 3 + 2, none⟩)) (a' := ?_) #[true, true, true, true, true, true, true, true, true, true, true, true, false] rfl rfl (by kernel_rfl) (fun _ _ _ h => h) (Or.inl ⟨by rfl, fun w' => by go_simp⟩) ?_ ?_
      rotate_left
      · simp only [Act.put, List.setIfInBounds_toArray, List.set_cons_zero, List.set_cons_succ, i64_w, i32_w]
        rfl
      have HO1 := Lib.hid (HO.out.below HB1.out)
      obtain ⟨cur, hcur, hsz⟩ := HO1.out.cur
      obtain ⟨rows2, b2, hO2, hgr⟩ := HO.out.step ci HB1.out (u := u) (by rw [HX.out]; exact HU.out) (by rw [HX.out]; exact Hx.out.1) rfl
      have HO2 := Lib.hid hO2
      have hne : ∀ (i : Nat) (x : Nat × Array Value × Nat), ([(kc, #[.slice none 0 0, .int .i64 0], 24), (kl, #[.slice (some ⟨g, 0, none⟩) l0.length c_, .int .i64 run], 24)])[i]? = some x → x.1 ≠ g := fun i x h => by
          match i, h with
          | 0, h => obtain rfl := Option.some.inj h; exact blk_ne (HS.out.get 0 rfl) hcur (by decide)
          | 1, h => obtain rfl := Option.some.inj h; exact blk_ne (HS.out.get 1 rfl) hcur (by decide)
          | i + 2, h => cases h
      have HS2 := Lib.hid (HS.out.grown0 hO2.B hgr hne)
      obtain ⟨Au, cu, rfl⟩ := Kd.R_slice HU.out
      refine last_ (i := 12) (N := none) #[true, true, true, true, true, true, true, true, true, true, true, true, true] rfl rfl (by kernel_rfl) (by decide) (fun K hK => ?_)
      refine skip_ (by rfl) rfl (run_store_seg_ rfl g (i_ * 3 + 2) rfl _ cur _ hcur rfl rfl (by kernel_rfl) (by omega) rfl) ?_
      refine hK.out _ _ ?_
      clear hK K hne hO2 hgr hcur hsz HS HO HO1 HU HB1 hHeld
      refine done_ (by kernel_rfl) ?_
      try go_wp2
      go_roundw
      case rel => exact ⟨i_ + 1, rows2, b2, by omega, by go_num, ⟨HS2.out⟩, ⟨HO2.out⟩⟩
      case measure => simp [intOf]; omega
    case neg =>
      have cib : decide ((i_ : Int) < (l0.length : Int)) = false := decide_eq_false (by omega)
      have cib2 : decide (i_ < l0.length) = false := decide_eq_false ci
      obtain rfl : i_ = l0.length := by omega
      go_wp2_with (first | ((with_reducible refine gate_dst (N := 27) rfl ?_); refine wpList_load_row rfl 24 (.tmp 1) rfl kl rfl 24 #[.slice A_ l0.length c_, .int .i64 run] (0, 0) _ (HS.out.get 1 rfl) Try.underlying24 rfl (by kernel_rfl) ?_) | ((with_reducible refine gate_store (t := 24) (p := 2) (v := .tmp 27) ?hgs ?_); (case hgs => rfl); refine wpList_store_row rfl rfl 24 2 (.tmp 27) rfl kc rfl #[.slice A_ l0.length c_, .int .i64 run] #[.slice none 0 0, .int .i64 0] 24 (HS.out.get 0 rfl) (by rfl) (by kernel_rfl) rfl (by rfl) (fun W_ => Sx w [(kc, #[.slice A_ l0.length c_, .int .i64 run], 24), (kl, #[.slice A_ l0.length c_, .int .i64 run], 24)] [] W_ ∧ OwnUpto w W_ (.slice A_ l0.length c_) l0 rows_ b_ l0.length) (⟨HS.out.row 0 rfl #[.slice A_ l0.length c_, .int .i64 run], HO.out.other (HS.out.bx 0 _ rfl).2 (by intro e; have h1 := HS.out.get 0 rfl; obtain ⟨cells, h2⟩ := Kd.R_typed HO.out.row kc e.symm; rw [h1] at h2; cases h2) (fun j hj => HO.out.bne (fun x hx => (HE.out x hx).1) (HS.out.get 0 rfl) (by decide) j hj hj) _⟩) ?_; rintro w5 ⟨he_, hx_⟩; clear HS; have HS := Lib.hid he_; clear he_; clear HO; have HO := Lib.hid hx_; clear hx_))
      refine bodyPost_ret (results_single (r := .cell 2 24) rfl (.cell kc 24 _ (0, 0) _ rfl (HS.out.get 0 rfl) Try.underlying24 rfl (by kernel_rfl) .nil)) rfl ?_
      exact ⟨_, rows_, b_, rfl, HO.out⟩
end Go.Proofs.Yteodhffgnkdcfaa.Q
