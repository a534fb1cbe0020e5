import Derived.Test.YteodhffgnkdcfaaQx0
import Derived.Test.YteodhffgnkdcfaaQx4
import Derived.Test.YteodhffgnkdcfaaQx5
import Derived.Test.YteodhffgnkdcfaaQx8
import Derived.Test.YteodhffgnkdcfaaQx10
import Derived.Test.YteodhffgnkdcfaaQx13
namespace Go.Proofs.Yteodhffgnkdcfaa.Q
open Go.RowKit Go.Proofs.YteodhffgnkdcfaaW.PrintWords Go.Proofs.YteodhffgnkdcfaaW.PrintLast Go.Proofs.YteodhffgnkdcfaaW.PrintMore
attribute [local go_sem] max2_int min2_int max_two min_two max_three min_three max_four min_four
set_option linter.unusedVariables false
set_option linter.unusedSimpArgs false
/-! ### lane_Drop: function 13 -/
def lane_Drop.f (k : Nat) (l0_0 : List J3) (a0_1 : Int) (a1 : Int) : Option (List J3 × Int × Int) :=
  (lane_Check.f k l0_0 a0_1).bind fun e0 => if e0 = 0 then (if findI l0_0 a1 < 0 then some ([], 0, 181) else if OwnOk l0_0 then some (l0_0.eraseIdx (findI l0_0 a1).toNat, (if a0_1 = a1 then -1 else a0_1), 0) else none) else some ([], 0, e0)
theorem lane_Drop.mono : ∀ a0 a1 a2 k, LeO (lane_Drop.f k a0 a1 a2) (lane_Drop.f (k + 1) a0 a1 a2) := by
  intro a0 a1 a2 k r h
  unfold lane_Drop.f at h ⊢
  obtain ⟨e0, h0, h⟩ := Option.bind_eq_some_iff.1 h
  rw [lane_Check.mono _ _ _ _ h0]
  exact h
set_option maxHeartbeats 8000000 in
theorem lane_Drop.calls (k : Nat) (A0_0 : Option Addr) (c0_0 : Nat) (l0_0 : List (S27)) (a0_1 : Int) (a1 : Int) (r1 : List (S27)) (r2 : Int) (r3 : Int) (w : World) (hr0_0 : Kd.C k27 w A0_0 l0_0.length l0_0) (hc0_0 : l0_0.length ≤ c0_0) (h : lane_Drop.f k l0_0 a0_1 a1 = some (r1, r2, r3)) :
    Calls Try.prog 13 #[.agg #[.slice A0_0 l0_0.length c0_0, .int .i64 a0_1], .int .i64 a1] w fun e w' => ∃ v0_ : Value, e = .returned (.tuple #[.agg #[v0_, .int .i64 r2], .int .i64 r3]) ∧ Kd.V k27 27 w' w.heap.size (fun k_ => (w.heap.size ≤ k_)) v0_ r1 ∧ Below w.heap.size w w' := by
  unfold lane_Drop.f at h
  obtain ⟨e0, h0, h⟩ := Option.bind_eq_some_iff.1 h
  have h0 := Lib.hid h0
  have HR := Lib.hid hr0_0
  have Hc := Lib.hid hc0_0
  have HS := Lib.hid (Sx.start w)
  clear hr0_0 hc0_0
  by_cases ce : e0 = 0
  case neg =>
    rw [if_neg ce] at h
    simp only [Option.some.injEq, Prod.mk.injEq] at h
    obtain ⟨rfl, rfl, rfl⟩ := h
    have cb : (e0 != 0) = true := by simp [ce]
    have cb2 : (e0 == 0) = false := by simp [ce]
    go_enter Try.func13, Try.ntmps13
    go_wp2_with (first | ((with_reducible refine gate_dst (N := 2) rfl ?_); refine box_event ?hg (N := 2) ?hd (cs := #[.slice A0_0 l0_0.length c0_0, .int .i64 a0_1]) (t := 24) ?hr ?_; (case hd => rfl); (case hg => rfl); (case hr => first | (go_simp; done) | (go_simp; rfl)); intro kl hE_ w1 hbox hb; have HN := Lib.hid (show Sx w [(kl, #[.slice A0_0 l0_0.length c0_0, .int .i64 a0_1], 24)] [] w1 from HS.out.box hE_ hbox hb); clear HS hE_ hbox hb; have HS := Lib.hid HN.out; clear HN) | ((with_reducible refine gate_dst (N := 4) rfl ?_); refine box_event ?hg (N := 4) ?hd (cs := #[.slice none 0 0, .int .i64 0]) (t := 24) ?hr ?_; (case hd => rfl); (case hg => rfl); (case hr => first | (go_simp; done) | (go_simp; rfl)); intro kr hE_ w2 hbox hb; have HN := Lib.hid (show Sx w [(kr, #[.slice none 0 0, .int .i64 0], 24), (kl, #[.slice A0_0 l0_0.length c0_0, .int .i64 a0_1], 24)] [] w2 from HS.out.box hE_ hbox hb); clear HS hE_ hbox hb; have HS := Lib.hid HN.out; clear HN) | ((with_reducible refine gate_dst (N := 8) rfl ?_); refine wpList_load_row rfl 24 (.tmp 2) rfl kl rfl 24 #[.slice A0_0 l0_0.length c0_0, .int .i64 a0_1] (0, 0) _ (HS.out.get 1 rfl) Try.underlying24 rfl (by kernel_rfl) ?_) | (go_at_call 21; refine Calls.mono (lane_Check.calls k A0_0 c0_0 l0_0 a0_1 _ _ (Kd.C_below HR.out HS.out.B) Hc.out h0.out) ?_; rintro e_ w3 ⟨rfl, hb⟩; have HN := Lib.hid (show Sx w [(kr, #[.slice none 0 0, .int .i64 0], 24), (kl, #[.slice A0_0 l0_0.length c0_0, .int .i64 a0_1], 24)] [] w3 from HS.out.below hb); clear HS hb; have HS := Lib.hid HN.out; clear HN) | ((with_reducible refine gate_store (t := 24) (p := 4) (v := .tmp 12) ?hgs ?_); (case hgs => rfl); refine wpList_store_row rfl rfl 24 4 (.tmp 12) rfl kr rfl #[.slice none 0 0, .int .i64 0] #[.slice none 0 0, .int .i64 0] 24 (HS.out.get 0 rfl) (by rfl) (by kernel_rfl) rfl (by rfl) (fun W_ => Sx w [(kr, #[.slice none 0 0, .int .i64 0], 24), (kl, #[.slice A0_0 l0_0.length c0_0, .int .i64 a0_1], 24)] [] W_) (HS.out.row 0 rfl #[.slice none 0 0, .int .i64 0]) ?_; rintro w4 he_; clear HS; have HS := Lib.hid he_; clear he_))
    refine bodyPost_ret (results_list (rs := [.cell 4 24, .tmp 5]) rfl (by simp) (.cell kr 24 #[.slice none 0 0, .int .i64 0] (0, 0) _ rfl (HS.out.get 0 rfl) Try.underlying24 rfl (by kernel_rfl) (.tmp .nil))) rfl ?_
    exact ⟨_, rfl, Kd.V_nil _ _ _ _ _, HS.out.B⟩
  case pos =>
    subst ce
    rw [if_pos rfl] at h
    have h1 := Lib.hid (show lane_find.f l0_0 a0_1 a1 = some (findI l0_0 a1) from rfl)
    by_cases cf : findI l0_0 a1 < 0
    case pos =>
      rw [if_pos cf] at h
      simp only [Option.some.injEq, Prod.mk.injEq] at h
      obtain ⟨rfl, rfl, rfl⟩ := h
      have cfb : decide (findI l0_0 a1 < 0) = true := by simp [cf]
      go_enter Try.func13, Try.ntmps13
      go_wp2_with (first | ((with_reducible refine gate_dst (N := 2) rfl ?_); refine box_event ?hg (N := 2) ?hd (cs := #[.slice A0_0 l0_0.length c0_0, .int .i64 a0_1]) (t := 24) ?hr ?_; (case hd => rfl); (case hg => rfl); (case hr => first | (go_simp; done) | (go_simp; rfl)); intro kl hE_ w1 hbox hb; have HN := Lib.hid (show Sx w [(kl, #[.slice A0_0 l0_0.length c0_0, .int .i64 a0_1], 24)] [] w1 from HS.out.box hE_ hbox hb); clear HS hE_ hbox hb; have HS := Lib.hid HN.out; clear HN) | ((with_reducible refine gate_dst (N := 4) rfl ?_); refine box_event ?hg (N := 4) ?hd (cs := #[.slice none 0 0, .int .i64 0]) (t := 24) ?hr ?_; (case hd => rfl); (case hg => rfl); (case hr => first | (go_simp; done) | (go_simp; rfl)); intro kr hE_ w2 hbox hb; have HN := Lib.hid (show Sx w [(kr, #[.slice none 0 0, .int .i64 0], 24), (kl, #[.slice A0_0 l0_0.length c0_0, .int .i64 a0_1], 24)] [] w2 from HS.out.box hE_ hbox hb); clear HS hE_ hbox hb; have HS := Lib.hid HN.out; clear HN) | ((with_reducible refine gate_dst (N := 8) rfl ?_); refine wpList_load_row rfl 24 (.tmp 2) rfl kl rfl 24 #[.slice A0_0 l0_0.length c0_0, .int .i64 a0_1] (0, 0) _ (HS.out.get 1 rfl) Try.underlying24 rfl (by kernel_rfl) ?_) | (go_at_call 21; refine Calls.mono (lane_Check.calls k A0_0 c0_0 l0_0 a0_1 _ _ (Kd.C_below HR.out HS.out.B) Hc.out h0.out) ?_; rintro e_ w3 ⟨rfl, hb⟩; have HN := Lib.hid (show Sx w [(kr, #[.slice none 0 0, .int .i64 0], 24), (kl, #[.slice A0_0 l0_0.length c0_0, .int .i64 a0_1], 24)] [] w3 from HS.out.below hb); clear HS hb; have HS := Lib.hid HN.out; clear HN) | ((with_reducible refine gate_dst (N := 14) rfl ?_); refine wpList_load_row rfl 24 (.tmp 2) rfl kl rfl 24 #[.slice A0_0 l0_0.length c0_0, .int .i64 a0_1] (0, 0) _ (HS.out.get 1 rfl) Try.underlying24 rfl (by kernel_rfl) ?_) | (go_at_call 26; refine Calls.mono (lane_find.calls A0_0 c0_0 l0_0 a0_1 a1 _ _ (Kd.C_below HR.out HS.out.B) Hc.out h1.out) ?_; rintro e_ w4 ⟨rfl, hb⟩; have HN := Lib.hid (show Sx w [(kr, #[.slice none 0 0, .int .i64 0], 24), (kl, #[.slice A0_0 l0_0.length c0_0, .int .i64 a0_1], 24)] [] w4 from HS.out.below hb); clear HS hb; have HS := Lib.hid HN.out; clear HN) | ((with_reducible refine gate_store (t := 24) (p := 4) (v := .tmp 19) ?hgs ?_); (case hgs => rfl); refine wpList_store_row rfl rfl 24 4 (.tmp 19) rfl kr rfl #[.slice none 0 0, .int .i64 0] #[.slice none 0 0, .int .i64 0] 24 (HS.out.get 0 rfl) (by rfl) (by kernel_rfl) rfl (by rfl) (fun W_ => Sx w [(kr, #[.slice none 0 0, .int .i64 0], 24), (kl, #[.slice A0_0 l0_0.length c0_0, .int .i64 a0_1], 24)] [] W_) (HS.out.row 0 rfl #[.slice none 0 0, .int .i64 0]) ?_; rintro w5 he_; clear HS; have HS := Lib.hid he_; clear he_))
      refine bodyPost_ret (results_list (rs := [.cell 4 24, .tmp 5]) rfl (by simp) (.cell kr 24 #[.slice none 0 0, .int .i64 0] (0, 0) _ rfl (HS.out.get 0 rfl) Try.underlying24 rfl (by kernel_rfl) (.tmp .nil))) rfl ?_
      exact ⟨_, rfl, Kd.V_nil _ _ _ _ _, HS.out.B⟩
    case neg =>
      rw [if_neg cf] at h
      by_cases ck : OwnOk l0_0
      case pos =>
        rw [if_pos ck] at h
        simp only [Option.some.injEq, Prod.mk.injEq] at h
        obtain ⟨rfl, hr2, rfl⟩ := h
        have Hr2 := Lib.hid hr2
        clear hr2
        have cfb : decide (findI l0_0 a1 < 0) = false := by simp; omega
        obtain ⟨n, hnf, hnl, hnt⟩ := findI_at cf
        have h2 := Lib.hid hnt
        rw [hnf] at h1 cfb ⊢
        clear hnf hnt cf
        rw [Int.toNat_natCast]
        have hn := ck.1
        have Hne := Lib.hid ck.2
        clear ck
        go_enter Try.func13, Try.ntmps13
        go_wp2_with (first | ((with_reducible refine gate_dst (N := 2) rfl ?_); refine box_event ?hg (N := 2) ?hd (cs := #[.slice A0_0 l0_0.length c0_0, .int .i64 a0_1]) (t := 24) ?hr ?_; (case hd => rfl); (case hg => rfl); (case hr => first | (go_simp; done) | (go_simp; rfl)); intro kl hE_ w1 hbox hb; have HN := Lib.hid (show Sx w [(kl, #[.slice A0_0 l0_0.length c0_0, .int .i64 a0_1], 24)] [] w1 from HS.out.box hE_ hbox hb); clear HS hE_ hbox hb; have HS := Lib.hid HN.out; clear HN) | ((with_reducible refine gate_dst (N := 4) rfl ?_); refine box_event ?hg (N := 4) ?hd (cs := #[.slice none 0 0, .int .i64 0]) (t := 24) ?hr ?_; (case hd => rfl); (case hg => rfl); (case hr => first | (go_simp; done) | (go_simp; rfl)); intro kr hE_ w2 hbox hb; have HN := Lib.hid (show Sx w [(kr, #[.slice none 0 0, .int .i64 0], 24), (kl, #[.slice A0_0 l0_0.length c0_0, .int .i64 a0_1], 24)] [] w2 from HS.out.box hE_ hbox hb); clear HS hE_ hbox hb; have HS := Lib.hid HN.out; clear HN) | ((with_reducible refine gate_dst (N := 8) rfl ?_); refine wpList_load_row rfl 24 (.tmp 2) rfl kl rfl 24 #[.slice A0_0 l0_0.length c0_0, .int .i64 a0_1] (0, 0) _ (HS.out.get 1 rfl) Try.underlying24 rfl (by kernel_rfl) ?_) | (go_at_call 21; refine Calls.mono (lane_Check.calls k A0_0 c0_0 l0_0 a0_1 _ _ (Kd.C_below HR.out HS.out.B) Hc.out h0.out) ?_; rintro e_ w3 ⟨rfl, hb⟩; have HN := Lib.hid (show Sx w [(kr, #[.slice none 0 0, .int .i64 0], 24), (kl, #[.slice A0_0 l0_0.length c0_0, .int .i64 a0_1], 24)] [] w3 from HS.out.below hb); clear HS hb; have HS := Lib.hid HN.out; clear HN) | ((with_reducible refine gate_dst (N := 14) rfl ?_); refine wpList_load_row rfl 24 (.tmp 2) rfl kl rfl 24 #[.slice A0_0 l0_0.length c0_0, .int .i64 a0_1] (0, 0) _ (HS.out.get 1 rfl) Try.underlying24 rfl (by kernel_rfl) ?_) | (go_at_call 26; refine Calls.mono (lane_find.calls A0_0 c0_0 l0_0 a0_1 a1 _ _ (Kd.C_below HR.out HS.out.B) Hc.out h1.out) ?_; rintro e_ w4 ⟨rfl, hb⟩; have HN := Lib.hid (show Sx w [(kr, #[.slice none 0 0, .int .i64 0], 24), (kl, #[.slice A0_0 l0_0.length c0_0, .int .i64 a0_1], 24)] [] w4 from HS.out.below hb); clear HS hb; have HS := Lib.hid HN.out; clear HN) | ((with_reducible refine gate_dst (N := 20) rfl ?_); refine wpList_load_row rfl 24 (.tmp 2) rfl kl rfl 24 #[.slice A0_0 l0_0.length c0_0, .int .i64 a0_1] (0, 0) _ (HS.out.get 1 rfl) Try.underlying24 rfl (by kernel_rfl) ?_) | (go_at_call 27; refine Calls.mono (own_calls A0_0 c0_0 l0_0 a0_1 _ (Kd.C_below HR.out HS.out.B) Hc.out hn (fun x hx => Hne.out x hx)) ?_; rintro e_ w5 ⟨v, rows, b, rfl, ho⟩; have ho1 := OJ.of_own ho (fun x hx => (Hne.out x hx).1); obtain ⟨A_, c_, rfl, -, -⟩ := ho1.slice; have Nkl := Lib.hid (show some kl ≠ (Value.slice A_ l0_0.length c_).ownBlock from fun e => by have h1 := HS.out.lt (i := 1) rfl; have h2 := ho1.lo _ e.symm; dsimp only at h1; omega); have Nkr := Lib.hid (show some kr ≠ (Value.slice A_ l0_0.length c_).ownBlock from fun e => by have h1 := HS.out.lt (i := 0) rfl; have h2 := ho1.lo _ e.symm; dsimp only at h1; omega); have HO := Lib.hid (ho1.lower HS.out.B.size); have hb := ho.B; have HN := Lib.hid (show Sx w [(kr, #[.slice none 0 0, .int .i64 0], 24), (kl, #[.slice A0_0 l0_0.length c0_0, .int .i64 a0_1], 24)] [] w5 from HS.out.below hb); clear HS hb; have HS := Lib.hid HN.out; clear HN; clear ho ho1) | ((with_reducible refine gate_store (t := 24) (p := 2) (v := .tmp 21) ?hgs ?_); (case hgs => rfl); refine wpList_store_row rfl rfl 24 2 (.tmp 21) rfl kl rfl #[(Value.slice A_ l0_0.length c_), .int .i64 a0_1] #[.slice A0_0 l0_0.length c0_0, .int .i64 a0_1] 24 (HS.out.get 1 rfl) (by rfl) (by kernel_rfl) rfl (by rfl) (fun W_ => Sx w [(kr, #[.slice none 0 0, .int .i64 0], 24), (kl, #[(Value.slice A_ l0_0.length c_), .int .i64 a0_1], 24)] [] W_ ∧ OJ w.heap.size W_ (Value.slice A_ l0_0.length c_) l0_0 rows) (⟨HS.out.row 1 rfl #[(Value.slice A_ l0_0.length c_), .int .i64 a0_1], HO.out.box (HS.out.get 1 rfl) (by decide) Nkl.out _⟩) ?_; rintro w6 ⟨he_, hx_⟩; clear HS; have HS := Lib.hid he_; clear he_; clear HO; have HO := Lib.hid hx_; clear hx_) | (go_at_call 31; refine Calls.mono (drop_calls w _ [(kr, #[.slice none 0 0, .int .i64 0], 24), (kl, #[(Value.slice A_ l0_0.length c_), .int .i64 a0_1], 24)] 1 kl w.heap.size n _ a0_1 l0_0 rows HS.out rfl HO.out (Nat.le_refl _) hnl (fun j x h => match j, h with | 0, h => by obtain rfl := Option.some.inj h; exact Nkr.out | 1, h => by obtain rfl := Option.some.inj h; exact Nkl.out | j + 2, h => by cases h)) ?_; rintro e_ w7 ⟨rfl, v', rows', hs_, ho_, hown_⟩; obtain ⟨A2_, c2_, rfl, -, -⟩ := ho_.slice; rw [h2.out, Hr2.out] at hs_; clear HS HO; have HS := Lib.hid (show Sx w [(kr, #[.slice none 0 0, .int .i64 0], 24), (kl, #[(Value.slice A2_ (l0_0.eraseIdx n).length c2_), .int .i64 r2], 24)] [] w7 from hs_); have HO := Lib.hid ho_; have Nkr2 := Lib.hid (show some kr ≠ (Value.slice A2_ (l0_0.eraseIdx n).length c2_).ownBlock by rw [hown_]; exact Nkr.out); clear hs_ ho_ hown_) | ((with_reducible refine gate_dst (N := 24) rfl ?_); refine wpList_load_row rfl 24 (.tmp 2) rfl kl rfl 24 #[(Value.slice A2_ (l0_0.eraseIdx n).length c2_), .int .i64 r2] (0, 0) _ (HS.out.get 1 rfl) Try.underlying24 rfl (by kernel_rfl) ?_) | ((with_reducible refine gate_store (t := 24) (p := 4) (v := .tmp 24) ?hgs ?_); (case hgs => rfl); refine wpList_store_row rfl rfl 24 4 (.tmp 24) rfl kr rfl #[(Value.slice A2_ (l0_0.eraseIdx n).length c2_), .int .i64 r2] #[.slice none 0 0, .int .i64 0] 24 (HS.out.get 0 rfl) (by rfl) (by kernel_rfl) rfl (by rfl) (fun W_ => Sx w [(kr, #[(Value.slice A2_ (l0_0.eraseIdx n).length c2_), .int .i64 r2], 24), (kl, #[(Value.slice A2_ (l0_0.eraseIdx n).length c2_), .int .i64 r2], 24)] [] W_ ∧ OJ w.heap.size W_ (Value.slice A2_ (l0_0.eraseIdx n).length c2_) (l0_0.eraseIdx n) rows') (⟨HS.out.row 0 rfl #[(Value.slice A2_ (l0_0.eraseIdx n).length c2_), .int .i64 r2], HO.out.box (HS.out.get 0 rfl) (by decide) Nkr2.out _⟩) ?_; rintro w8 ⟨he_, hx_⟩; clear HS; have HS := Lib.hid he_; clear he_; clear HO; have HO := Lib.hid hx_; clear hx_))
        refine bodyPost_ret (results_list (rs := [.cell 4 24, .tmp 5]) rfl (by simp) (.cell kr 24 #[(Value.slice A2_ (l0_0.eraseIdx n).length c2_), .int .i64 r2] (0, 0) _ rfl (HS.out.get 0 rfl) Try.underlying24 rfl (by kernel_rfl) (.tmp .nil))) rfl ?_
        exact ⟨_, rfl, HO.out.V, HS.out.B⟩
      case neg => rw [if_neg ck] at h; cases h
end Go.Proofs.Yteodhffgnkdcfaa.Q
