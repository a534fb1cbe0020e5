import Derived.Test.YteodhffgnkdcfaaQx0
namespace Go.Proofs.Yteodhffgnkdcfaa.Q
open Go.RowKit Go.Proofs.YteodhffgnkdcfaaW.PrintWords Go.Proofs.YteodhffgnkdcfaaW.PrintLast Go.Proofs.YteodhffgnkdcfaaW.PrintMore
attribute [local go_sem] max2_int min2_int max_two min_two max_three min_three max_four min_four
set_option linter.unusedVariables false
set_option linter.unusedSimpArgs false
structure OwnUpto (w W : World) (v : Value) (js : List S27) (rows : List (List Value)) (b : Nat → Nat) (i : Nat) : Prop where mk ::
  (B : Below w.heap.size w W) (row : (Kd.raw 3).R 27 W w.heap.size (fun _ => True) v rows) (len : rows.length = js.length)
  (mine : ∀ (j : Nat) (x : S27) (c : List Value), j < i → js[j]? = some x → rows[j]? = some c → k27.M W w.heap.size (fun k => k = b j ∧ some k ≠ v.ownBlock) x c)
  (rest : ∀ (j : Nat) (x : S27) (c : List Value), i ≤ j → js[j]? = some x → rows[j]? = some c → Kd.FK k27 W (fun k => k < w.heap.size) x c)
  (inj : ∀ j k, j < i → k < i → b j = b k → j = k) (lt : ∀ j, j < i → b j < W.heap.size)
section
variable {w W W' : World} {v : Value} {js : List S27} {rows : List (List Value)} {b : Nat → Nat} {i : Nat}
theorem OwnUpto.start (hB : Below w.heap.size w W) (hR : (Kd.raw 3).R 27 W w.heap.size (fun _ => True) v rows) (hl : rows.length = js.length) (hf : ∀ (j : Nat) (x : S27) (c : List Value), js[j]? = some x → rows[j]? = some c → Kd.FK k27 W (fun k => k < w.heap.size) x c) : OwnUpto w W v js rows (fun _ => 0) 0 :=
  ⟨hB, hR, hl, fun j x c hj => by omega, fun j x c _ hx hc => hf j x c hx hc, fun j k hj => by omega, fun j hj => by omega⟩
theorem OwnUpto.below (h : OwnUpto w W v js rows b i) (hb : Below W.heap.size W W') : OwnUpto w W' v js rows b i :=
  ⟨below_step h.B hb, Kd.R_below h.row hb, h.len, fun j x c hj hx hc => Kd.M_step (h.mine j x c hj hx hc) (fun k _ hlt => hb.block k hlt), fun j x c hj hx hc => Kd.FK_below (h.rest j x c hj hx hc) hb, h.inj, fun j hj => Nat.lt_of_lt_of_le (h.lt j hj) hb.size⟩
theorem OwnUpto.other (h : OwnUpto w W v js rows b i) {g : Nat} (hg0 : w.heap.size ≤ g) (hg : some g ≠ v.ownBlock) (hb : ∀ j, j < i → b j ≠ g) (cs : Array Value) : OwnUpto w (W.setRow g cs) v js rows b i := by
  have hR : (Kd.raw 3).R 27 (W.setRow g cs) w.heap.size (fun _ => True) v rows := by
    obtain ⟨h0, inner, ho, hr⟩ := h.row
    exact ⟨h0, inner, own_move ho (fun k hk => setRow_other W g k cs (fun e => hg (by rw [hk, e]))), hr⟩
  refine ⟨setRow_below h.B hg0 cs, hR, h.len, fun j x c hj hx hc => Kd.M_step (h.mine j x c hj hx hc) (fun k hk _ => setRow_other W g k cs (fun e => hb j hj (by rw [← e]; exact hk.1.symm))), fun j x c hj hx hc => Kd.FK_step (h.rest j x c hj hx hc) (fun k hk _ => setRow_other W g k cs (by omega)), h.inj, fun j hj => ?_⟩
  have := h.lt j hj
  simpa [World.setRow] using this
theorem OwnUpto.at (h : OwnUpto w W v js rows b i) (hi : i < js.length) : ∃ g cap A c, v = .slice (some ⟨g, 0, none⟩) js.length cap ∧ js.length ≤ cap ∧ w.heap.size ≤ g ∧ g < W.heap.size ∧ rows[i]? = some [.int .i64 (js.getD i z27).f0, .int .i64 (js.getD i z27).f1, .slice A (js.getD i z27).f2.length c] ∧ (js.getD i z27).f2.length ≤ c ∧
    Kd.C (Kd.int .i64) W A (js.getD i z27).f2.length (js.getD i z27).f2 ∧ W.cell? ⟨g, i * 3 + 2, none⟩ = some (.slice A (js.getD i z27).f2.length c) := by
  have hl := h.len
  obtain ⟨g, cap, hv, hg1, hg2, _⟩ := Kd.R_form h.row (by omega)
  have hx : js[i]? = some (js.getD i z27) := by rw [List.getD_eq_getElem?_getD, List.getElem?_eq_getElem hi]; rfl
  have hc := List.getElem?_eq_getElem (show i < rows.length by omega)
  obtain ⟨A, c, hcs, hcl, hF⟩ := k27_openF (h.rest i _ _ (Nat.le_refl _) hx hc)
  have hrow := h.row
  rw [hv] at hrow
  obtain ⟨c', hcl', hM, hcell, _⟩ := Kd.R_elem hrow ([] : List Value) (i : Int) (by omega) (by omega)
  obtain ⟨_, hcap, _⟩ := Kd.R_reads' hrow
  rw [Int.toNat_natCast] at hM hcell
  have e : rows.getD i [] = c' := hM.1.symm
  rw [List.getD_eq_getElem?_getD, hc, Option.getD_some] at e
  refine ⟨g, cap, A, c, by rw [hv, hl], by omega, hg1, hg2, by rw [hc, hcs], hcl, Kd.F_now hF, ?_⟩
  exact hcell 2 _ (by rw [← e, hcs]; rfl)
theorem OwnUpto.step (h : OwnUpto w W v js rows b i) (hi : i < js.length) {W1 : World} (hb : Below W.heap.size W W1) {u : Value} (hu : Kd.R (Kd.int .i64) 3 W1 W.heap.size (fun _ => True) u (js.getD i z27).f2) (hne : (js.getD i z27).f2 ≠ [])
    {g cap : Nat} (hv : v = .slice (some ⟨g, 0, none⟩) js.length cap) : ∃ rows' b', OwnUpto w (W1.setCells g (i * 3 + 2) [u]) v js rows' b' (i + 1) ∧ W1.grownBy (W1.setCells g (i * 3 + 2) [u]) (some g) := by
  have hB := h.B
  have hl := h.len
  obtain ⟨g', cap', A, c, hv', hcap, hg1, hg2, hrow, hcl, hC, hcell⟩ := h.at hi
  rw [hv] at hv'
  injection hv' with hv' _ hcc
  injection hv' with hv'
  injection hv' with hgg
  subst hgg hcc
  have hx : js[i]? = some (js.getD i z27) := by rw [List.getD_eq_getElem?_getD, List.getElem?_eq_getElem hi]; rfl
  generalize js.getD i z27 = x at *
  have hR1 := Kd.R_below h.row hb
  rw [hv, ← hl] at hR1
  obtain ⟨ku, cu, hu', hku1, hku2, _⟩ := Kd.R_form hu (List.length_pos_iff.2 hne)
  have hone : u.oneCell' = true := by rw [hu']; rfl
  obtain ⟨c', hcl', hM, hcc, _⟩ := Kd.R_elem hR1 ([] : List Value) (i : Int) (by omega) (by omega)
  rw [Int.toNat_natCast] at hM hcc
  have ec : c' = [.int .i64 x.f0, .int .i64 x.f1, .slice A x.f2.length c] := by
    have e : rows.getD i [] = c' := hM.1.symm
    rw [← e, List.getD_eq_getElem?_getD, hrow, Option.getD_some]
  subst ec
  have hseg := Kd.R_seg hR1 (i : Int) (by omega) (by omega) (c := [.int .i64 x.f0, .int .i64 x.f1, .slice A x.f2.length c]) (seg := [u]) (j := 2) rfl (by rw [Int.toNat_natCast]; exact hcc) (by show 2 + 1 ≤ 3; omega) (x' := [.int .i64 x.f0, .int .i64 x.f1, u]) (okp := fun _ => False) ⟨rfl, rfl, fun q hq => by
    rcases List.mem_cons.1 hq with rfl | hq
    · rfl
    rcases List.mem_cons.1 hq with rfl | hq
    · rfl
    rcases List.mem_cons.1 hq with rfl | hq
    · exact hone
    · cases hq⟩ (fun _ hk => hk.elim)
  rw [Int.toNat_natCast] at hseg
  obtain ⟨hR2, hgr⟩ := hseg
  change (Kd.raw 3).R _ (W1.setCells g (i * 3 + 2) [u]) _ _ _ _ at hR2
  change W1.grownBy (W1.setCells g (i * 3 + 2) [u]) _ at hgr
  generalize W1.setCells g (i * 3 + 2) [u] = W2 at *
  have hst : ∀ k, k < W.heap.size → some k ≠ some g → W2.heap[k]? = W.heap[k]? := fun k hk hne => (hgr.block k (Nat.lt_of_lt_of_le hk hb.size) hne).trans (hb.block k hk)
  have ho : v.ownBlock = some g := by rw [hv]; rfl
  have hsz : W.heap.size ≤ W2.heap.size := Nat.le_trans hb.size hgr.size
  refine ⟨rows.set i [.int .i64 x.f0, .int .i64 x.f1, u], fun j => if j = i then ku else b j, ⟨?_, ?_, by rw [List.length_set]; exact hl, fun j y d hj hy hd => ?_, fun j y d hj hy hd => ?_, fun j k hj hk e => ?_, fun j hj => ?_⟩, hgr⟩
  · exact (below_step hB hb).grown hgr (Nat.le_trans hB.size hb.size) (fun k hk => by injection hk with hk; omega)
  · rw [hv, ← hl]; exact hR2
  · by_cases c : j = i
    · subst c
      rw [List.getElem?_set_self (by omega)] at hd
      obtain rfl := Option.some.inj hd
      rw [hx] at hy
      obtain rfl := Option.some.inj hy
      rw [if_pos rfl]
      have hu2 : Kd.R (Kd.int .i64) 3 W2 W.heap.size (fun k => True ∧ W.heap.size ≤ k ∧ k < W1.heap.size ∧ _) u x.f2 := Kd.R_grown (Kd.R_bound hu) hgr (fun k hk => by have := hk.2.1; intro e; injection e with e; omega)
      refine k27_mkM _ _ _ x (Kd.R_of_own (Kd.own_of_R (Kd.R_lower hu2 hB.size)) (fun k hk => ?_))
      have : k = ku := by rw [hu'] at hk; simpa [Value.ownBlock] using hk.symm
      subst this
      exact ⟨rfl, by rw [ho]; intro e; injection e with e; omega⟩
    · rw [List.getElem?_set_ne (fun e => c e.symm)] at hd
      rw [if_neg c]
      exact Kd.M_step (h.mine j y d (by omega) hy hd) (fun k hk hlt => hst k hlt (by rw [← ho]; exact hk.2))
  · rw [List.getElem?_set_ne (by omega)] at hd
    exact Kd.FK_step (h.rest j y d (by omega) hy hd) (fun k hk hlt => hst k hlt (fun e => by injection e with e; omega))
  · by_cases c1 : j = i
    · by_cases c2 : k = i
      · omega
      · rw [if_pos c1, if_neg c2] at e
        have := h.lt k (by omega); omega
    · by_cases c2 : k = i
      · rw [if_neg c1, if_pos c2] at e
        have := h.lt j (by omega); omega
      · rw [if_neg c1, if_neg c2] at e
        exact h.inj j k (by omega) (by omega) e
  · by_cases c : j = i
    · rw [if_pos c]; have := hgr.size; omega
    · rw [if_neg c]; have := h.lt j (by omega); omega
end
theorem Sx.grown0 {w W W' : World} {L : List (Nat × Array Value × Nat)} (s : Sx w L [] W) (hB : Below w.heap.size w W') {g : Nat} (hg : W.grownBy W' (some g)) (hne : ∀ (i : Nat) (x : Nat × Array Value × Nat), L[i]? = some x → x.1 ≠ g) : Sx w L [] W' :=
  ⟨hB, fun i x h => ⟨blk_grown (s.bx i x h).1 hg (fun e => by injection e with e; exact hne i x h e), (s.bx i x h).2⟩, s.nd, fun i P h => by simp at h⟩
theorem run_store_seg_ {P : Program} {o : Oper} {a : Act} {w : World} {ty : TypeId} {p x : Operand} (ho : o.op = .store ty p x) (g f : Nat) (hp : a.eval p = .pointer (some ⟨g, f, none⟩)) (t : TypeId) (cur : Array Value) (u : Value) (hg : w.heap[g]? = some (.cells cur t (0, 0)))
    (hx : a.eval x = u) (hu : u.cells.toList = [u]) (hi : (P.info? ty).map (·.size) = some 1) (hfit : f + 1 ≤ cur.size) (h1 : u.oneCell' = true) : (execOp a.eval o).run P w = .ok .skip (w.setCells g f [u]) := by
  have hr := run_store_run (P := P) (w := w) (g := g) (o := f) (e := t) (cur := cur) ty u [u] hg hu hi hfit (fun q hq => by rw [List.mem_singleton.1 hq]; exact h1)
  unfold execOp
  simp only [ho, hp, hx, Sem.run_bind, Sem.run_pure, Result.andThen_ok, hr]
theorem OwnUpto.cur {w W : World} {js : List S27} {rows : List (List Value)} {b : Nat → Nat} {i g cap : Nat} (h : OwnUpto w W (.slice (some ⟨g, 0, none⟩) js.length cap) js rows b i) : ∃ cur : Array Value, W.heap[g]? = some (.cells cur 27 (0, 0)) ∧ js.length * 3 ≤ cur.size := by
  obtain ⟨_, inner, ⟨_, ho⟩, _⟩ := h.row
  rcases ho with ⟨e, _⟩ | ⟨g', cap', cur, e, _, hg, hn, _, hs, _⟩
  · cases e
  · injection e with e _ hc
    injection e with e
    injection e with e
    subst e
    refine ⟨cur, hg, ?_⟩
    rw [hs]
    have := h.len
    exact Nat.mul_le_mul_right 3 (by omega)
theorem OwnUpto.bne {w W : World} {v : Value} {js : List S27} {rows : List (List Value)} {b : Nat → Nat} {i : Nat} (h : OwnUpto w W v js rows b i) (hne : ∀ x ∈ js, x.f2 ≠ []) {g t : Nat} {cells : Array Value} (hg : W.heap[g]? = some (.cells cells t (0, 0))) (ht : 3 ≠ t) (j : Nat) (hj : j < i) (hjl : j < js.length) : b j ≠ g := by
  have hl := h.len
  have hM := h.mine j _ _ hj (List.getElem?_eq_getElem hjl) (List.getElem?_eq_getElem (by omega))
  obtain ⟨v2, _, hR⟩ := k27_openM hM
  obtain ⟨gg, cap, hv2, _, _, cs, hc⟩ := Kd.R_form hR (List.length_pos_iff.2 (hne _ (List.getElem_mem hjl)))
  have h1 := (hR.1 gg (by rw [hv2]; rfl)).1
  intro e
  rw [← h1] at e
  subst e
  rw [hg] at hc
  injection hc with hc
  injection hc with _ hc
  exact ht hc.symm
set_option maxHeartbeats 4000000 in
theorem cloneJobs_calls (A0 : Option Addr) (c0 : Nat) (l0 : List S27) (w w0 : World) (hr0 : Kd.C k27 w A0 l0.length l0) (hrw : Kd.C k27 w0 A0 l0.length l0) (hb0 : Below w0.heap.size w0 w) (hc0 : l0.length ≤ c0) (hl : l0.length ≤ 1000) :
    Calls Try.prog 42 #[.slice A0 l0.length c0] w fun e w' => ∃ v rows, e = .returned v ∧ (Kd.raw 3).R 27 w' w.heap.size (fun _ => True) v rows ∧ rows.length = l0.length ∧ (∀ (j : Nat) (x : S27) (c : List Value), l0[j]? = some x → rows[j]? = some c → Kd.FK k27 w' (fun k => k < w0.heap.size) x c) ∧ Below w.heap.size w w' := by
  cases A0 with
  | none =>
    cases l0 with
    | cons x xs =>
      obtain ⟨_, _, hx⟩ := hr0
      obtain ⟨_, he, _⟩ := hx (by simp)
      cases he
    | nil =>
      have hE : ∀ W : World, (binOp .eql 22 (.slice none 0 c0) (.slice none 0 0)).run Try.prog W = .ok (.bool true) W := fun W => by first | kernel_rfl | rfl | simp [binOp]
      go_enter Try.func42, Try.ntmps42
      go_wp2
      go_ret
      exact ⟨_, [], rfl, Kd.R_nil _ _ _ _ _, rfl, fun j x c hx => by simp at hx, Below.refl _ _⟩
  | some ad =>
    have HR := Lib.hid hrw
    have HB0 := Lib.hid hb0
    clear hr0 hrw hb0
    have hE : ∀ W : World, (binOp .eql 22 (.slice (some ad) l0.length c0) (.slice none 0 0)).run Try.prog W = .ok (.bool false) W := fun W => by first | kernel_rfl | rfl | simp [binOp]
    go_enter Try.func42, Try.ntmps42
    go_wp2_with (first | ((with_reducible refine gate_dst (N := 5) rfl ?_); refine Kd.R_lit (Kd.raw 3) _ 27 ?hg (N := 5) ?hd (xs := ([] : List (List Value))) (inner := []) (ok := fun _ => True) (okp := fun _ => True) ?hr ?hp (fun _ hk => hk) trivial (Below.refl _ _) (Nat.le_refl _) (by simp) ?_; (case hd => rfl); (case hg => rfl); (case hr => first | (go_simp; done) | (go_simp; rfl)); (case hp => exact (Reps.none _ _)); intro v1 w1 hn_ hb_ hg_ hnew_; have HN := Lib.hid hn_; have HB := Lib.hid hb_; clear hg_ hnew_ hn_ hb_) | ((with_reducible refine gate_builtin (b := .append) (xs := #[.tmp 5, .tmp 6]) rfl ?_); at_builtin; obtain ⟨news, hnl, hnr, hnf⟩ := Kd.reads_raw (Kd.F_rows (Kd.F_step (Kd.C_F k27_heap HR.out) (fun k hk hlt => (below_step HB0.out HB.out).block k hk) : Kd.F k27 w1 (fun k => k < w0.heap.size) _ _ l0)) (fun y c hk => ⟨k27.K_len (Kd.FK_now hk), k27.K_one (Kd.FK_now hk)⟩); refine Kd.R_append_rows (Kd.raw 3) (w0 := w) w.heap.size rfl (.tmp 5) (.tmp 6) 22 27 (.agg #[.int .i64 0, .int .i64 0, .slice none 0 0]) 40 rfl Try.underlying22 info27 rfl (by decide) (by omega) v1 [] news _ _ _ (fun _ => True) (fun _ => False) rfl rfl HN.out hnr (fun _ _ hk => hk) (fun _ hk => hk.elim) (fun _ _ => trivial) HB.out HB.out.size ?aL ?_; (case aL => simp; omega); intro v2 w2 hn_ hb_ hg_ hat_; have HN2 := Lib.hid hn_; have HB2 := Lib.hid hb_; have HG := Lib.hid hg_; clear hn_ hb_ hg_ hat_))
    go_ret
    exact ⟨_, news, rfl, HN2.out, hnl, fun j x c hx hc => Kd.FK_step (hnf j x c hx hc) (fun k hk hlt => HG.out.block k hlt (fun e => by have := Kd.R_base HN.out k e.symm; have := HB0.out.size; omega)), HB2.out⟩
end Go.Proofs.Yteodhffgnkdcfaa.Q
