import Derived.Test.YteodhffgnkdcfaaDoorQx0
import Derived.Test.YteodhffgnkdcfaaDoorQx6
import Derived.Test.YteodhffgnkdcfaaDoorQx7
import Derived.Test.YteodhffgnkdcfaaDoorQx10
import Derived.Test.YteodhffgnkdcfaaDoorQx12
import Derived.Test.YteodhffgnkdcfaaDoorQx14
import Derived.Test.YteodhffgnkdcfaaDoorQx16
namespace Go.Proofs.YteodhffgnkdcfaaDoor.Q
open Go.RowKit Go.Proofs.YteodhffgnkdcfaaDoorW.PrintWords Go.Proofs.YteodhffgnkdcfaaDoorW.PrintLast Go.Proofs.YteodhffgnkdcfaaDoorW.PrintMore
attribute [local go_sem] max2_int min2_int max_two min_two max_three min_three max_four min_four
set_option linter.unusedVariables false
set_option linter.unusedSimpArgs false
/-! ### lane_Drop: function 10 -/
def lane_Drop.f (k : Nat) (l0_0 : List J3) (a0_1 : Int) (a1 : Int) : Option (List J3 × Int × Int) :=
  (lane_Check.f k l0_0 a0_1).bind fun e0 => if e0 = 0 then (if findI l0_0 a1 < 0 then some ([], 0, 181) else if OwnOk l0_0 then some (l0_0.eraseIdx (findI l0_0 a1).toNat, (if a0_1 = a1 then -1 else a0_1), 0) else none) else some ([], 0, e0)
theorem lane_Drop.mono : ∀ a0 a1 a2 k, LeO (lane_Drop.f k a0 a1 a2) (lane_Drop.f (k + 1) a0 a1 a2) := by
  intro a0 a1 a2 k r h
  unfold lane_Drop.f at h ⊢
  obtain ⟨e0, h0, h⟩ := Option.bind_eq_some_iff.1 h
  rw [lane_Check.mono _ _ _ _ h0]
  exact h
set_option maxHeartbeats 8000000 in
set_option maxRecDepth 100000 in
theorem lane_Drop.calls (k : Nat) (A0_0 : Option Addr) (c0_0 : Nat) (l0_0 : List (S41)) (a0_1 : Int) (a1 : Int) (r1 : List (S41)) (r2 : Int) (r3 : Int) (w : World) (hr0_0 : Kd.C k41 w A0_0 l0_0.length l0_0) (hc0_0 : l0_0.length ≤ c0_0) (h : lane_Drop.f k l0_0 a0_1 a1 = some (r1, r2, r3)) :
    Calls Tryd.prog 10 #[.agg #[.slice A0_0 l0_0.length c0_0, .int .i64 a0_1], .int .i64 a1] w fun e w' => ∃ v0_ : Value, e = .returned (.tuple #[.agg #[v0_, .int .i64 r2], .int .i64 r3]) ∧ Kd.V k41 41 w' w.heap.size (fun k_ => (w.heap.size ≤ k_)) v0_ r1 ∧ Below w.heap.size w w' := by
  unfold lane_Drop.f at h
  obtain ⟨e0, h0, h⟩ := Option.bind_eq_some_iff.1 h
  have h0 := Lib.hid h0
  have HR := Lib.hid hr0_0
  have Hc := Lib.hid hc0_0
  have HS := Lib.hid (Sx.start w)
  clear hr0_0 hc0_0
  by_cases ce : e0 = 0
  case neg =>
    rw [if_neg ce] at h
    simp only [Option.some.injEq, Prod.mk.injEq] at h
    obtain ⟨rfl, rfl, rfl⟩ := h
    have cb : (e0 != 0) = true := by simp [ce]
    have cb2 : (e0 == 0) = false := by simp [ce]
    go_enter Tryd.func10, Tryd.ntmps10
    go_wp2_with (first | ((with_reducible refine gate_dst (N := 2) rfl ?_); refine box_event ?hg (N := 2) ?hd (cs := #[.slice A0_0 l0_0.length c0_0, .int .i64 a0_1]) (t := 34) ?hr ?_; (case hd => rfl); (case hg => rfl); (case hr => first | (go_simp; done) | (go_simp; rfl)); intro kl hE_ w1 hbox hb; have HN := Lib.hid (show Sx w [(kl, #[.slice A0_0 l0_0.length c0_0, .int .i64 a0_1], 34)] [] w1 from HS.out.box hE_ hbox hb); clear HS hE_ hbox hb; have HS := Lib.hid HN.out; clear HN) | ((with_reducible refine gate_dst (N := 4) rfl ?_); refine box_event ?hg (N := 4) ?hd (cs := #[.slice none 0 0, .int .i64 0]) (t := 34) ?hr ?_; (case hd => rfl); (case hg => rfl); (case hr => first | (go_simp; done) | (go_simp; rfl)); intro kr hE_ w2 hbox hb; have HN := Lib.hid (show Sx w [(kr, #[.slice none 0 0, .int .i64 0], 34), (kl, #[.slice A0_0 l0_0.length c0_0, .int .i64 a0_1], 34)] [] w2 from HS.out.box hE_ hbox hb); clear HS hE_ hbox hb; have HS := Lib.hid HN.out; clear HN) | ((with_reducible refine gate_dst (N := 8) rfl ?_); refine wpList_load_row rfl 34 (.tmp 2) rfl kl rfl 34 #[.slice A0_0 l0_0.length c0_0, .int .i64 a0_1] (0, 0) _ (HS.out.get 1 rfl) Tryd.underlying34 rfl (by kernel_rfl) ?_) | (go_at_call 12; refine Calls.mono (lane_Check.calls k A0_0 c0_0 l0_0 a0_1 _ _ (Kd.C_below HR.out HS.out.B) Hc.out h0.out) ?_; rintro e_ w3 ⟨rfl, hb⟩; have HN := Lib.hid (show Sx w [(kr, #[.slice none 0 0, .int .i64 0], 34), (kl, #[.slice A0_0 l0_0.length c0_0, .int .i64 a0_1], 34)] [] w3 from HS.out.below hb); clear HS hb; have HS := Lib.hid HN.out; clear HN) | ((with_reducible refine gate_store (t := 34) (p := 4) (v := .tmp 12) ?hgs ?_); (case hgs => rfl); refine wpList_store_row rfl rfl 34 4 (.tmp 12) rfl kr rfl #[.slice none 0 0, .int .i64 0] #[.slice none 0 0, .int .i64 0] 34 (HS.out.get 0 rfl) (by rfl) (by kernel_rfl) rfl (by rfl) (fun W_ => Sx w [(kr, #[.slice none 0 0, .int .i64 0], 34), (kl, #[.slice A0_0 l0_0.length c0_0, .int .i64 a0_1], 34)] [] W_) (HS.out.row 0 rfl #[.slice none 0 0, .int .i64 0]) ?_; rintro w4 he_; clear HS; have HS := Lib.hid he_; clear he_))
    refine bodyPost_ret (results_list (rs := [.cell 4 34, .tmp 5]) rfl (by simp) (.cell kr 34 #[.slice none 0 0, .int .i64 0] (0, 0) _ rfl (HS.out.get 0 rfl) Tryd.underlying34 rfl (by kernel_rfl) (.tmp .nil))) rfl ?_
    exact ⟨_, rfl, Kd.V_nil _ _ _ _ _, HS.out.B⟩
  case pos =>
    subst ce
    rw [if_pos rfl] at h
    have h1 := Lib.hid (show lane_find.f l0_0 a0_1 a1 = some (findI l0_0 a1) from rfl)
    by_cases cf : findI l0_0 a1 < 0
    case pos =>
      rw [if_pos cf] at h
      simp only [Option.some.injEq, Prod.mk.injEq] at h
      obtain ⟨rfl, rfl, rfl⟩ := h
      have cfb : decide (findI l0_0 a1 < 0) = true := by simp [cf]
      go_enter Tryd.func10, Tryd.ntmps10
      go_wp2_with (first | ((with_reducible refine gate_dst (N := 2) rfl ?_); refine box_event ?hg (N := 2) ?hd (cs := #[.slice A0_0 l0_0.length c0_0, .int .i64 a0_1]) (t := 34) ?hr ?_; (case hd => rfl); (case hg => rfl); (case hr => first | (go_simp; done) | (go_simp; rfl)); intro kl hE_ w1 hbox hb; have HN := Lib.hid (show Sx w [(kl, #[.slice A0_0 l0_0.length c0_0, .int .i64 a0_1], 34)] [] w1 from HS.out.box hE_ hbox hb); clear HS hE_ hbox hb; have HS := Lib.hid HN.out; clear HN) | ((with_reducible refine gate_dst (N := 4) rfl ?_); refine box_event ?hg (N := 4) ?hd (cs := #[.slice none 0 0, .int .i64 0]) (t := 34) ?hr ?_; (case hd => rfl); (case hg => rfl); (case hr => first | (go_simp; done) | (go_simp; rfl)); intro kr hE_ w2 hbox hb; have HN := Lib.hid (show Sx w [(kr, #[.slice none 0 0, .int .i64 0], 34), (kl, #[.slice A0_0 l0_0.length c0_0, .int .i64 a0_1], 34)] [] w2 from HS.out.box hE_ hbox hb); clear HS hE_ hbox hb; have HS := Lib.hid HN.out; clear HN) | ((with_reducible refine gate_dst (N := 8) rfl ?_); refine wpList_load_row rfl 34 (.tmp 2) rfl kl rfl 34 #[.slice A0_0 l0_0.length c0_0, .int .i64 a0_1] (0, 0) _ (HS.out.get 1 rfl) Tryd.underlying34 rfl (by kernel_rfl) ?_) | (go_at_call 12; refine Calls.mono (lane_Check.calls k A0_0 c0_0 l0_0 a0_1 _ _ (Kd.C_below HR.out HS.out.B) Hc.out h0.out) ?_; rintro e_ w3 ⟨rfl, hb⟩; have HN := Lib.hid (show Sx w [(kr, #[.slice none 0 0, .int .i64 0], 34), (kl, #[.slice A0_0 l0_0.length c0_0, .int .i64 a0_1], 34)] [] w3 from HS.out.below hb); clear HS hb; have HS := Lib.hid HN.out; clear HN) | ((with_reducible refine gate_dst (N := 14) rfl ?_); refine wpList_load_row rfl 34 (.tmp 2) rfl kl rfl 34 #[.slice A0_0 l0_0.length c0_0, .int .i64 a0_1] (0, 0) _ (HS.out.get 1 rfl) Tryd.underlying34 rfl (by kernel_rfl) ?_) | (go_at_call 19; refine Calls.mono (lane_find.calls A0_0 c0_0 l0_0 a0_1 a1 _ _ (Kd.C_below HR.out HS.out.B) Hc.out h1.out) ?_; rintro e_ w4 ⟨rfl, hb⟩; have HN := Lib.hid (show Sx w [(kr, #[.slice none 0 0, .int .i64 0], 34), (kl, #[.slice A0_0 l0_0.length c0_0, .int .i64 a0_1], 34)] [] w4 from HS.out.below hb); clear HS hb; have HS := Lib.hid HN.out; clear HN) | ((with_reducible refine gate_store (t := 34) (p := 4) (v := .tmp 19) ?hgs ?_); (case hgs => rfl); refine wpList_store_row rfl rfl 34 4 (.tmp 19) rfl kr rfl #[.slice none 0 0, .int .i64 0] #[.slice none 0 0, .int .i64 0] 34 (HS.out.get 0 rfl) (by rfl) (by kernel_rfl) rfl (by rfl) (fun W_ => Sx w [(kr, #[.slice none 0 0, .int .i64 0], 34), (kl, #[.slice A0_0 l0_0.length c0_0, .int .i64 a0_1], 34)] [] W_) (HS.out.row 0 rfl #[.slice none 0 0, .int .i64 0]) ?_; rintro w5 he_; clear HS; have HS := Lib.hid he_; clear he_))
      refine bodyPost_ret (results_list (rs := [.cell 4 34, .tmp 5]) rfl (by simp) (.cell kr 34 #[.slice none 0 0, .int .i64 0] (0, 0) _ rfl (HS.out.get 0 rfl) Tryd.underlying34 rfl (by kernel_rfl) (.tmp .nil))) rfl ?_
      exact ⟨_, rfl, Kd.V_nil _ _ _ _ _, HS.out.B⟩
    case neg =>
      rw [if_neg cf] at h
      by_cases ck : OwnOk l0_0
      case pos =>
        rw [if_pos ck] at h
        simp only [Option.some.injEq, Prod.mk.injEq] at h
        obtain ⟨rfl, hr2, rfl⟩ := h
        have Hr2 := Lib.hid hr2
        clear hr2
        have cfb : decide (findI l0_0 a1 < 0) = false := by simp; omega
        obtain ⟨n, hnf, hnl, hnt⟩ := findI_at cf
        have h2 := Lib.hid hnt
        rw [hnf] at h1 cfb ⊢
        clear hnf hnt cf
        rw [Int.toNat_natCast]
        have hn := ck.1
        have Hne := Lib.hid ck.2
        clear ck
        go_enter Tryd.func10, Tryd.ntmps10
        go_wp2_with (first | ((with_reducible refine gate_dst (N := 2) rfl ?_); refine box_event ?hg (N := 2) ?hd (cs := #[.slice A0_0 l0_0.length c0_0, .int .i64 a0_1]) (t := 34) ?hr ?_; (case hd => rfl); (case hg => rfl); (case hr => first | (go_simp; done) | (go_simp; rfl)); intro kl hE_ w1 hbox hb; have HN := Lib.hid (show Sx w [(kl, #[.slice A0_0 l0_0.length c0_0, .int .i64 a0_1], 34)] [] w1 from HS.out.box hE_ hbox hb); clear HS hE_ hbox hb; have HS := Lib.hid HN.out; clear HN) | ((with_reducible refine gate_dst (N := 4) rfl ?_); refine box_event ?hg (N := 4) ?hd (cs := #[.slice none 0 0, .int .i64 0]) (t := 34) ?hr ?_; (case hd => rfl); (case hg => rfl); (case hr => first | (go_simp; done) | (go_simp; rfl)); intro kr hE_ w2 hbox hb; have HN := Lib.hid (show Sx w [(kr, #[.slice none 0 0, .int .i64 0], 34), (kl, #[.slice A0_0 l0_0.length c0_0, .int .i64 a0_1], 34)] [] w2 from HS.out.box hE_ hbox hb); clear HS hE_ hbox hb; have HS := Lib.hid HN.out; clear HN) | ((with_reducible refine gate_dst (N := 8) rfl ?_); refine wpList_load_row rfl 34 (.tmp 2) rfl kl rfl 34 #[.slice A0_0 l0_0.length c0_0, .int .i64 a0_1] (0, 0) _ (HS.out.get 1 rfl) Tryd.underlying34 rfl (by kernel_rfl) ?_) | (go_at_call 12; refine Calls.mono (lane_Check.calls k A0_0 c0_0 l0_0 a0_1 _ _ (Kd.C_below HR.out HS.out.B) Hc.out h0.out) ?_; rintro e_ w3 ⟨rfl, hb⟩; have HN := Lib.hid (show Sx w [(kr, #[.slice none 0 0, .int .i64 0], 34), (kl, #[.slice A0_0 l0_0.length c0_0, .int .i64 a0_1], 34)] [] w3 from HS.out.below hb); clear HS hb; have HS := Lib.hid HN.out; clear HN) | ((with_reducible refine gate_dst (N := 14) rfl ?_); refine wpList_load_row rfl 34 (.tmp 2) rfl kl rfl 34 #[.slice A0_0 l0_0.length c0_0, .int .i64 a0_1] (0, 0) _ (HS.out.get 1 rfl) Tryd.underlying34 rfl (by kernel_rfl) ?_) | (go_at_call 19; refine Calls.mono (lane_find.calls A0_0 c0_0 l0_0 a0_1 a1 _ _ (Kd.C_below HR.out HS.out.B) Hc.out h1.out) ?_; rintro e_ w4 ⟨rfl, hb⟩; have HN := Lib.hid (show Sx w [(kr, #[.slice none 0 0, .int .i64 0], 34), (kl, #[.slice A0_0 l0_0.length c0_0, .int .i64 a0_1], 34)] [] w4 from HS.out.below hb); clear HS hb; have HS := Lib.hid HN.out; clear HN) | ((with_reducible refine gate_dst (N := 20) rfl ?_); refine wpList_load_row rfl 34 (.tmp 2) rfl kl rfl 34 #[.slice A0_0 l0_0.length c0_0, .int .i64 a0_1] (0, 0) _ (HS.out.get 1 rfl) Tryd.underlying34 rfl (by kernel_rfl) ?_) | (go_at_call 20; refine Calls.mono (own_calls A0_0 c0_0 l0_0 a0_1 _ (Kd.C_below HR.out HS.out.B) Hc.out hn (fun x hx => Hne.out x hx)) ?_; rintro e_ w5 ⟨v, rows, b, rfl, ho⟩; have ho1 := OJ.of_own ho (fun x hx => (Hne.out x hx).1); obtain ⟨A_, c_, rfl, -, -⟩ := ho1.slice; have Nkl := Lib.hid (show some kl ≠ (Value.slice A_ l0_0.length c_).ownBlock from fun e => by have h1 := HS.out.lt (i := 1) rfl; have h2 := ho1.lo _ e.symm; dsimp only at h1; omega); have Nkr := Lib.hid (show some kr ≠ (Value.slice A_ l0_0.length c_).ownBlock from fun e => by have h1 := HS.out.lt (i := 0) rfl; have h2 := ho1.lo _ e.symm; dsimp only at h1; omega); have HO := Lib.hid (ho1.lower HS.out.B.size); have hb := ho.B; have HN := Lib.hid (show Sx w [(kr, #[.slice none 0 0, .int .i64 0], 34), (kl, #[.slice A0_0 l0_0.length c0_0, .int .i64 a0_1], 34)] [] w5 from HS.out.below hb); clear HS hb; have HS := Lib.hid HN.out; clear HN; clear ho ho1) | ((with_reducible refine gate_store (t := 34) (p := 2) (v := .tmp 21) ?hgs ?_); (case hgs => rfl); refine wpList_store_row rfl rfl 34 2 (.tmp 21) rfl kl rfl #[(Value.slice A_ l0_0.length c_), .int .i64 a0_1] #[.slice A0_0 l0_0.length c0_0, .int .i64 a0_1] 34 (HS.out.get 1 rfl) (by rfl) (by kernel_rfl) rfl (by rfl) (fun W_ => Sx w [(kr, #[.slice none 0 0, .int .i64 0], 34), (kl, #[(Value.slice A_ l0_0.length c_), .int .i64 a0_1], 34)] [] W_ ∧ OJ w.heap.size W_ (Value.slice A_ l0_0.length c_) l0_0 rows) (⟨HS.out.row 1 rfl #[(Value.slice A_ l0_0.length c_), .int .i64 a0_1], HO.out.box (HS.out.get 1 rfl) (by decide) Nkl.out _⟩) ?_; rintro w6 ⟨he_, hx_⟩; clear HS; have HS := Lib.hid he_; clear he_; clear HO; have HO := Lib.hid hx_; clear hx_) | (go_at_call 24; refine Calls.mono (drop_calls w _ [(kr, #[.slice none 0 0, .int .i64 0], 34), (kl, #[(Value.slice A_ l0_0.length c_), .int .i64 a0_1], 34)] 1 kl w.heap.size n _ a0_1 l0_0 rows HS.out rfl HO.out (Nat.le_refl _) hnl (fun j x h => match j, h with | 0, h => by obtain rfl := Option.some.inj h; exact Nkr.out | 1, h => by obtain rfl := Option.some.inj h; exact Nkl.out | j + 2, h => by cases h)) ?_; rintro e_ w7 ⟨rfl, v', rows', hs_, ho_, hown_⟩; obtain ⟨A2_, c2_, rfl, -, -⟩ := ho_.slice; rw [h2.out, Hr2.out] at hs_; clear HS HO; have HS := Lib.hid (show Sx w [(kr, #[.slice none 0 0, .int .i64 0], 34), (kl, #[(Value.slice A2_ (l0_0.eraseIdx n).length c2_), .int .i64 r2], 34)] [] w7 from hs_); have HO := Lib.hid ho_; have Nkr2 := Lib.hid (show some kr ≠ (Value.slice A2_ (l0_0.eraseIdx n).length c2_).ownBlock by rw [hown_]; exact Nkr.out); clear hs_ ho_ hown_) | ((with_reducible refine gate_dst (N := 24) rfl ?_); refine wpList_load_row rfl 34 (.tmp 2) rfl kl rfl 34 #[(Value.slice A2_ (l0_0.eraseIdx n).length c2_), .int .i64 r2] (0, 0) _ (HS.out.get 1 rfl) Tryd.underlying34 rfl (by kernel_rfl) ?_) | ((with_reducible refine gate_store (t := 34) (p := 4) (v := .tmp 24) ?hgs ?_); (case hgs => rfl); refine wpList_store_row rfl rfl 34 4 (.tmp 24) rfl kr rfl #[(Value.slice A2_ (l0_0.eraseIdx n).length c2_), .int .i64 r2] #[.slice none 0 0, .int .i64 0] 34 (HS.out.get 0 rfl) (by rfl) (by kernel_rfl) rfl (by rfl) (fun W_ => Sx w [(kr, #[(Value.slice A2_ (l0_0.eraseIdx n).length c2_), .int .i64 r2], 34), (kl, #[(Value.slice A2_ (l0_0.eraseIdx n).length c2_), .int .i64 r2], 34)] [] W_ ∧ OJ w.heap.size W_ (Value.slice A2_ (l0_0.eraseIdx n).length c2_) (l0_0.eraseIdx n) rows') (⟨HS.out.row 0 rfl #[(Value.slice A2_ (l0_0.eraseIdx n).length c2_), .int .i64 r2], HO.out.box (HS.out.get 0 rfl) (by decide) Nkr2.out _⟩) ?_; rintro w8 ⟨he_, hx_⟩; clear HS; have HS := Lib.hid he_; clear he_; clear HO; have HO := Lib.hid hx_; clear hx_))
        refine bodyPost_ret (results_list (rs := [.cell 4 34, .tmp 5]) rfl (by simp) (.cell kr 34 #[(Value.slice A2_ (l0_0.eraseIdx n).length c2_), .int .i64 r2] (0, 0) _ rfl (HS.out.get 0 rfl) Tryd.underlying34 rfl (by kernel_rfl) (.tmp .nil))) rfl ?_
        exact ⟨_, rfl, HO.out.V, HS.out.B⟩
      case neg => rw [if_neg ck] at h; cases h
/-! ### lane_Next: function 11 -/
def lane_Next.f (k : Nat) (l0_0 : List (S41)) (a0_1 : Int) : Option (Int) := (lane_Check.f k l0_0 a0_1).bind fun t149 => (if t149 = 0 then ((lane_next.f l0_0 a0_1).bind fun t150 => (some t150)) else (some (-1)))
theorem lane_Next.mono : ∀ a0 a1 k, LeO (lane_Next.f k a0 a1) (lane_Next.f (k + 1) a0 a1) := by
  intro a0 a1 k
  unfold lane_Next.f
  repeat' first
      | (with_reducible exact lane_Check.mono _ _ _)
      | (with_reducible exact LeO.refl _)
      | (with_reducible exact LeO.none _)
      | (with_reducible refine LeO.ite ?_ ?_)
      | (with_reducible refine LeO.bind ?_ (fun _ => ?_))
      | exact lane_Check.mono _ _ _
      | exact LeO.none _
      | refine LeO.ite ?_ ?_
      | refine LeO.bind ?_ (fun _ => ?_)
set_option maxHeartbeats 8000000 in
set_option maxRecDepth 100000 in
theorem lane_Next.calls (k : Nat) (A0_0 : Option Addr) (c0_0 : Nat) (l0_0 : List (S41)) (a0_1 : Int) (r : Int) (w : World) (hr0_0 : Kd.C k41 w A0_0 l0_0.length l0_0) (hc0_0 : l0_0.length ≤ c0_0) (h : lane_Next.f k l0_0 a0_1 = some r) :
    Calls Tryd.prog 11 #[.agg #[.slice A0_0 l0_0.length c0_0, .int .i64 a0_1]] w fun e w' => e = .returned (.int .i64 r) ∧ Below w.heap.size w w' := by
  have hu34 := Tryd.underlying34
  have HR0_0 := Aside0.mk hr0_0
  have HC0_0 := Aside0.mk hc0_0
  clear hr0_0 hc0_0
  have HB := Aside0.mk (Below.refl w.heap.size w)
  have H : ((lane_Check.f k l0_0 a0_1).bind fun t149 => (if t149 = 0 then ((lane_next.f l0_0 a0_1).bind fun t150 => (some t150)) else (some (-1)))) = some r := h
  clear h
  replace H := Option.bind_eq_some_iff.mp H
  obtain ⟨t149, A20, H⟩ := H
  replace H : (if t149 = 0 then ((lane_next.f l0_0 a0_1).bind fun t150 => (some t150)) else (some (-1))) = some r := H
  have A2 := Aside0.mk A20
  clear A20
  by_cases c3 : t149 = 0
  · rw [if_pos c3] at H
    have c3b0 : (t149 == 0) = true := beq_iff_eq.mpr c3
    have c3b1 : (t149 != 0) = false := bne_eq_false_iff_eq.mpr c3
    clear c3
    replace H := Option.bind_eq_some_iff.mp H
    obtain ⟨t150, A40, H⟩ := H
    replace H : (some t150) = some r := H
    have A4 := Aside0.mk A40
    clear A40
    obtain rfl := Option.some.inj H
    go_enter Tryd.func11, Tryd.ntmps11
    go_wp2_with (first | ((with_reducible refine gate_dst (N := 1) rfl ?_); refine box_event ?hg (N := 1) ?hd (cs := #[.slice A0_0 l0_0.length c0_0, .int .i64 a0_1]) (t := 34) ?hr ?_; (case hd => rfl); (case hg => rfl); (case hr => first | (go_simp; done) | (go_simp; rfl)); intro gb148 hg w5 hbox hb; have n0_ := Aside0.mk (below_step (by repeat (first | (with_reducible first | exact HB.out | apply below_alloc | apply pw_below_drewN | apply below_drew1) | exact HB.out)) hb); have n1_ := Aside0.mk (hbox); have n2_ := Aside0.mk ((by rw [hg]; exact (below_size (by repeat (first | (with_reducible first | exact HB.out | apply below_alloc | apply pw_below_drewN | apply below_drew1) | exact HB.out))) : w.heap.size ≤ gb148)); have n3_ := Aside0.mk ((by rw [hg]; exact (below_size (by repeat (first | (with_reducible first | exact HB.out | apply below_alloc | apply pw_below_drewN | apply below_drew1) | exact HB.out))) : w.heap.size ≤ gb148)); clear HB; have HB := n0_; have BK148 := n1_; have GW148 := n2_; have GE148 := n3_; clear n0_ n1_ n2_ n3_; clear hb hbox hg; have hcz6_0 : w5.cell? ⟨gb148, 0, none⟩ = some (.slice A0_0 l0_0.length c0_0) := (blk_cell BK148.out 0).trans rfl; have hcz6_1 : w5.cell? ⟨gb148, 1, none⟩ = some (.int .i64 a0_1) := (blk_cell BK148.out 1).trans rfl; have hfz6_0 := blk_frozen BK148.out 0; have hfz6_1 := blk_frozen BK148.out 1) | ((with_reducible refine gate_callee (f := 12) rfl ?_); refine goesL_ (some 4) rfl rfl Tryd.func12 (by kernel_rfl) rfl #[.agg #[.slice A0_0 l0_0.length c0_0, .int .i64 a0_1]] rfl (by (try simp only [List.map_toArray, List.map_cons, List.map_nil]); first | done | rfl | (simp only [List.length_drop, List.length_take]; rfl)) ?_; (with_reducible refine (lane_Check.calls k _ _ l0_0 a0_1 t149 _ ?side1 ?side2 A2.out).mono ?_); (case side1 => repeat (first | exact (Kd.C_below HR0_0.out HB.out) | (with_reducible refine Kd.C_alloc ?_ _) | (with_reducible refine Kd.C_drewN ?_ _) | (with_reducible refine Kd.C_drew ?_))); (case side2 => exact HC0_0.out); rintro e w7 ⟨rfl, hb⟩; refine ⟨_, rfl, ?_⟩; have n0_ := Aside0.mk (blk_below (g := gb148) (o := .cells #[.slice A0_0 l0_0.length c0_0, .int .i64 a0_1] 34 (0, 0)) (by (with_reducible repeat (first | refine blk_drewN ?_ _ | refine blk_drew ?_ | refine blk_alloc ?_ _)); exact BK148.out) hb); have n1_ := Aside0.mk (below_step (by repeat (first | (with_reducible first | exact HB.out | apply below_alloc | apply pw_below_drewN | apply below_drew1 | refine below_set ?_ GE148.out) | exact HB.out)) hb); clear BK148; clear HB; have BK148 := n0_; have HB := n1_; clear n0_ n1_; (try clear hb); (try clear hb2); (try clear hk); (try clear hi); have hcz8_0 : w7.cell? ⟨gb148, 0, none⟩ = some (.slice A0_0 l0_0.length c0_0) := (blk_cell BK148.out 0).trans rfl; have hcz8_1 : w7.cell? ⟨gb148, 1, none⟩ = some (.int .i64 a0_1) := (blk_cell BK148.out 1).trans rfl; have hfz8_0 := blk_frozen BK148.out 0; have hfz8_1 := blk_frozen BK148.out 1) | ((with_reducible refine gate_callee (f := 23) rfl ?_); refine goesL_ (some 7) rfl rfl Tryd.func23 (by kernel_rfl) rfl #[.agg #[.slice A0_0 l0_0.length c0_0, .int .i64 a0_1]] rfl (by (try simp only [List.map_toArray, List.map_cons, List.map_nil]); first | done | rfl | (simp only [List.length_drop, List.length_take]; rfl)) ?_; (with_reducible refine (lane_next.calls _ _ l0_0 a0_1 t150 _ ?side1 ?side2 A4.out).mono ?_); (case side1 => repeat (first | exact (Kd.C_below HR0_0.out HB.out) | (with_reducible refine Kd.C_alloc ?_ _) | (with_reducible refine Kd.C_drewN ?_ _) | (with_reducible refine Kd.C_drew ?_))); (case side2 => exact HC0_0.out); rintro e w9 ⟨rfl, hb⟩; refine ⟨_, rfl, ?_⟩; have n0_ := Aside0.mk (blk_below (g := gb148) (o := .cells #[.slice A0_0 l0_0.length c0_0, .int .i64 a0_1] 34 (0, 0)) (by (with_reducible repeat (first | refine blk_drewN ?_ _ | refine blk_drew ?_ | refine blk_alloc ?_ _)); exact BK148.out) hb); have n1_ := Aside0.mk (below_step (by repeat (first | (with_reducible first | exact HB.out | apply below_alloc | apply pw_below_drewN | apply below_drew1 | refine below_set ?_ GE148.out) | exact HB.out)) hb); clear BK148; clear HB; have BK148 := n0_; have HB := n1_; clear n0_ n1_; (try clear hb); (try clear hb2); (try clear hk); (try clear hi)))
    go_ret
    exact ⟨by first | rfl | (simp [errW_none, errW_some] <;> rfl) | (simp [*, errW_none, errW_some] <;> rfl), by repeat (first | (with_reducible first | exact HB.out | apply below_alloc | apply pw_below_drewN | apply below_drew1 | refine below_set ?_ GE148.out) | exact HB.out)⟩
  · rw [if_neg c3] at H
    have c3b0 : (t149 == 0) = false := beq_eq_false_iff_ne.mpr c3
    have c3b1 : (t149 != 0) = true := bne_iff_ne.mpr c3
    obtain rfl := Option.some.inj H
    go_enter Tryd.func11, Tryd.ntmps11
    go_wp2_with (first | ((with_reducible refine gate_dst (N := 1) rfl ?_); refine box_event ?hg (N := 1) ?hd (cs := #[.slice A0_0 l0_0.length c0_0, .int .i64 a0_1]) (t := 34) ?hr ?_; (case hd => rfl); (case hg => rfl); (case hr => first | (go_simp; done) | (go_simp; rfl)); intro gb148 hg w10 hbox hb; have n0_ := Aside0.mk (below_step (by repeat (first | (with_reducible first | exact HB.out | apply below_alloc | apply pw_below_drewN | apply below_drew1) | exact HB.out)) hb); have n1_ := Aside0.mk (hbox); have n2_ := Aside0.mk ((by rw [hg]; exact (below_size (by repeat (first | (with_reducible first | exact HB.out | apply below_alloc | apply pw_below_drewN | apply below_drew1) | exact HB.out))) : w.heap.size ≤ gb148)); have n3_ := Aside0.mk ((by rw [hg]; exact (below_size (by repeat (first | (with_reducible first | exact HB.out | apply below_alloc | apply pw_below_drewN | apply below_drew1) | exact HB.out))) : w.heap.size ≤ gb148)); clear HB; have HB := n0_; have BK148 := n1_; have GW148 := n2_; have GE148 := n3_; clear n0_ n1_ n2_ n3_; clear hb hbox hg; have hcz11_0 : w10.cell? ⟨gb148, 0, none⟩ = some (.slice A0_0 l0_0.length c0_0) := (blk_cell BK148.out 0).trans rfl; have hcz11_1 : w10.cell? ⟨gb148, 1, none⟩ = some (.int .i64 a0_1) := (blk_cell BK148.out 1).trans rfl; have hfz11_0 := blk_frozen BK148.out 0; have hfz11_1 := blk_frozen BK148.out 1) | ((with_reducible refine gate_callee (f := 12) rfl ?_); refine goesL_ (some 4) rfl rfl Tryd.func12 (by kernel_rfl) rfl #[.agg #[.slice A0_0 l0_0.length c0_0, .int .i64 a0_1]] rfl (by (try simp only [List.map_toArray, List.map_cons, List.map_nil]); first | done | rfl | (simp only [List.length_drop, List.length_take]; rfl)) ?_; (with_reducible refine (lane_Check.calls k _ _ l0_0 a0_1 t149 _ ?side1 ?side2 A2.out).mono ?_); (case side1 => repeat (first | exact (Kd.C_below HR0_0.out HB.out) | (with_reducible refine Kd.C_alloc ?_ _) | (with_reducible refine Kd.C_drewN ?_ _) | (with_reducible refine Kd.C_drew ?_))); (case side2 => exact HC0_0.out); rintro e w12 ⟨rfl, hb⟩; refine ⟨_, rfl, ?_⟩; have n0_ := Aside0.mk (blk_below (g := gb148) (o := .cells #[.slice A0_0 l0_0.length c0_0, .int .i64 a0_1] 34 (0, 0)) (by (with_reducible repeat (first | refine blk_drewN ?_ _ | refine blk_drew ?_ | refine blk_alloc ?_ _)); exact BK148.out) hb); have n1_ := Aside0.mk (below_step (by repeat (first | (with_reducible first | exact HB.out | apply below_alloc | apply pw_below_drewN | apply below_drew1 | refine below_set ?_ GE148.out) | exact HB.out)) hb); clear BK148; clear HB; have BK148 := n0_; have HB := n1_; clear n0_ n1_; (try clear hb); (try clear hb2); (try clear hk); (try clear hi)))
    go_ret
    exact ⟨by first | rfl | (simp [errW_none, errW_some] <;> rfl) | (simp [*, errW_none, errW_some] <;> rfl), by repeat (first | (with_reducible first | exact HB.out | apply below_alloc | apply pw_below_drewN | apply below_drew1 | refine below_set ?_ GE148.out) | exact HB.out)⟩
end Go.Proofs.YteodhffgnkdcfaaDoor.Q
