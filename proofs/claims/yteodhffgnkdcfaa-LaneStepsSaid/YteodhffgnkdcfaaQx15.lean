import Derived.Test.YteodhffgnkdcfaaQx0
import Derived.Test.YteodhffgnkdcfaaQx2
namespace Go.Proofs.Yteodhffgnkdcfaa.Q
open Go.RowKit Go.Proofs.YteodhffgnkdcfaaW.PrintWords Go.Proofs.YteodhffgnkdcfaaW.PrintLast Go.Proofs.YteodhffgnkdcfaaW.PrintMore
attribute [local go_sem] max2_int min2_int max_two min_two max_three min_three max_four min_four
set_option linter.unusedVariables false
set_option linter.unusedSimpArgs false
theorem enters_next : ∀ args W, (callFunc 47 args).run Try.prog W = .ok (.enter 47 args) W := enters_ Try.func47 (by kernel_rfl) rfl
theorem goesVr_ {P : Program} {ops : Array Oper} {Q : Exit → Act → World → Prop} {oi : Oper} {N : Option Tmp} {a : Act} {w : World} {K : Act → World → Prop} {f : FuncId} {aa : Array Operand} {ts : Array TypeId} {t : Tmp} (he : ∀ args W, (callFunc f args).run P W = .ok (.enter f args) W) (args : Array Value) (hw : Region.wanted oi (yielded ops a.tmps) = true) (hN : oi.dst = N)
    (hop : oi.op = .call { callee := .value (.tmp t), args := aa, argTypes := ts }) (hv : a.eval (.tmp t) = .func (.func f) #[] #[]) (hargs : aa.map a.eval = args)
    (h : Calls P f args w fun e w' => ∃ v, e = .returned v ∧ K (a.put N v) w') : if Region.wanted oi (yielded ops a.tmps) = true then Oper.wp P oi a w K Q else K (a.put N undef) w := by
  have he' := he args w
  refine call_ f args hw hN ?_ h
  unfold execOp
  simp [hop, resolve, hv, Deferred.ofValue, invoke, hargs, he']
theorem add_0 (a : Addr) : a.add (0 * 3) = a := by
  obtain ⟨b, o, s⟩ := a
  unfold Addr.add
  split <;> simp_all
def minP {α : Type} (z : α) (cmp : α → α → Int) : List α → α
  | [] => z
  | x :: xs => xs.foldl (fun m y => if cmp y m < 0 then y else m) x
theorem minP_take {α : Type} (z : α) (cmp : α → α → Int) (l : List α) (k : Nat) (h1 : 1 ≤ k) (hk : k < l.length) : minP z cmp (l.take (k + 1)) = if cmp (l.getD k z) (minP z cmp (l.take k)) < 0 then l.getD k z else minP z cmp (l.take k) := by
  cases l with
  | nil => simp at hk
  | cons x xs =>
    obtain ⟨j, rfl⟩ : ∃ j, k = j + 1 := ⟨k - 1, by omega⟩
    have hj : j < xs.length := by simpa using hk
    rw [List.take_succ_cons, List.take_succ_cons]
    show (xs.take (j + 1)).foldl _ x = if cmp _ ((xs.take j).foldl _ x) < 0 then _ else (xs.take j).foldl _ x
    rw [List.take_succ_eq_append_getElem hj, List.foldl_append]
    have : (x :: xs).getD (j + 1) z = xs[j] := by rw [List.getD_cons_succ, List.getD_eq_getElem?_getD, List.getElem?_eq_getElem hj]; rfl
    rw [this]
    rfl
theorem minP_mem {α : Type} (z : α) (cmp : α → α → Int) (l : List α) (h : l ≠ []) : minP z cmp l ∈ l := by
  cases l with
  | nil => exact absurd rfl h
  | cons x xs =>
    show xs.foldl (fun m y => if cmp y m < 0 then y else m) x ∈ x :: xs
    have key : ∀ (ys : List α) (m : α), ys.foldl (fun m y => if cmp y m < 0 then y else m) m = m ∨ ys.foldl (fun m y => if cmp y m < 0 then y else m) m ∈ ys := by
      intro ys
      induction ys with
      | nil => intro m; exact .inl rfl
      | cons y ys ih =>
        intro m
        rw [List.foldl_cons]
        rcases ih (if cmp y m < 0 then y else m) with h | h
        · rw [h]
          split
          · exact .inr List.mem_cons_self
          · exact .inl rfl
        · exact .inr (List.mem_cons_of_mem _ h)
    rcases key xs x with h | h
    · rw [h]; exact List.mem_cons_self
    · exact List.mem_cons_of_mem _ h
set_option maxHeartbeats 8000000 in
theorem minJobs_calls (cmp : S27 → S27 → Int) (f : FuncId) (A0 : Option Addr) (c0 : Nat) (l0 : List S27) (hne : l0 ≠ []) (w : World) (hr0 : Kd.C k27 w A0 l0.length l0)
    (he : ∀ args W, (callFunc f args).run Try.prog W = .ok (.enter f args) W)
    (hf : ∀ x ∈ l0, ∀ y ∈ l0, ∀ (A : Option Addr) (c : Nat) (A' : Option Addr) (c' : Nat) (W : World), Kd.C (Kd.int .i64) W A x.f2.length x.f2 → x.f2.length ≤ c → Kd.C (Kd.int .i64) W A' y.f2.length y.f2 → y.f2.length ≤ c' → Calls Try.prog f #[.agg #[.int .i64 x.f0, .int .i64 x.f1, .slice A x.f2.length c], .agg #[.int .i64 y.f0, .int .i64 y.f1, .slice A' y.f2.length c']] W fun e w' => e = .returned (.int .i64 (cmp x y)) ∧ Below W.heap.size W w') :
    Calls Try.prog 46 #[.slice A0 l0.length c0, .func (.func f) #[] #[]] w fun e w' => ∃ A c, e = .returned (.agg #[.int .i64 (minP z27 cmp l0).f0, .int .i64 (minP z27 cmp l0).f1, .slice A (minP z27 cmp l0).f2.length c]) ∧ Below w.heap.size w w' := by
  have hl0 := kd_len hr0
  have h1 : 1 ≤ l0.length := by cases l0 with | nil => exact absurd rfl hne | cons x xs => simp
  have HR0 := Lib.hid hr0
  have HF := Lib.hid hf
  clear hr0 hf hne
  have hd0 : decide ((l0.length : Int) < 1) = false := decide_eq_false (by omega)
  obtain ⟨ad0, A2, c2, hA, x0, x1, x2, hq1, hq2⟩ := at_job HR0.out (k := 0) (by omega)
  cases hA
  have Hq1 := Lib.hid hq1
  have Hq2 := Lib.hid hq2
  rw [add_0] at x0 x1 x2
  have X0 := Lib.hid x0
  have X1 := Lib.hid x1
  have X2 := Lib.hid x2
  have e0 : minP z27 cmp (l0.take 1) = l0.getD 0 z27 := by cases l0 with | nil => simp at h1 | cons x xs => rfl
  have Hm := Lib.hid (show l0.getD 0 z27 ∈ l0 from mem_getD (by omega))
  have HE0 := Lib.hid e0
  generalize l0.getD 0 z27 = x at *
  clear hq1 hq2 x0 x1 x2 e0
  have hp0 : ((0 : Nat) : Int) < (l0.length : Int) := by omega
  have HS := Lib.hid (Sx.start w)
  go_enter Try.func46, Try.ntmps46
  go_wp2_with (first | ((with_reducible refine gate_dst (N := 4) rfl ?_); refine box_event ?hg (N := 4) ?hd (cs := #[.int .i64 0, .int .i64 0, .slice none 0 0]) (t := 27) ?hr ?_; (case hd => rfl); (case hg => rfl); (case hr => first | (go_simp; done) | (go_simp; rfl)); intro kr hE_ w1 hbox hb; have HN := Lib.hid (show Sx w [(kr, #[.int .i64 0, .int .i64 0, .slice none 0 0], 27)] [] w1 from HS.out.box hE_ hbox hb); clear HS hE_ hbox hb; have HS := Lib.hid HN.out; clear HN; have x0 := pw_cell_below HS.out.B X0.out; have x1 := pw_cell_below HS.out.B X1.out; have x2 := pw_cell_below HS.out.B X2.out) | ((with_reducible refine gate_dst (N := 5) rfl ?_); refine box_event ?hg (N := 5) ?hd (cs := #[.int .i64 0, .int .i64 0, .slice none 0 0]) (t := 27) ?hr ?_; (case hd => rfl); (case hg => rfl); (case hr => first | (go_simp; done) | (go_simp; rfl)); intro km hE_ w2 hbox hb; have HN := Lib.hid (show Sx w [(km, #[.int .i64 0, .int .i64 0, .slice none 0 0], 27), (kr, #[.int .i64 0, .int .i64 0, .slice none 0 0], 27)] [] w2 from HS.out.box hE_ hbox hb); clear HS hE_ hbox hb; have HS := Lib.hid HN.out; clear HN; clear x0 x1 x2) | ((with_reducible refine gate_store (t := 27) (p := 5) (v := .tmp 13) ?hgs ?_); (case hgs => rfl); refine wpList_store_row rfl rfl 27 5 (.tmp 13) rfl km rfl #[.int .i64 x.f0, .int .i64 x.f1, .slice A2 x.f2.length c2] #[.int .i64 0, .int .i64 0, .slice none 0 0] 27 (HS.out.get 0 rfl) (by rfl) (by kernel_rfl) rfl (by rfl) (fun W_ => Sx w [(km, #[.int .i64 x.f0, .int .i64 x.f1, .slice A2 x.f2.length c2], 27), (kr, #[.int .i64 0, .int .i64 0, .slice none 0 0], 27)] [] W_) (HS.out.row 0 rfl #[.int .i64 x.f0, .int .i64 x.f1, .slice A2 x.f2.length c2]) ?_; rintro w3 he_; clear HS; have HS := Lib.hid he_; clear he_))
  go_loopw [6] (fun v6 w' => ∃ (k : Nat) (m_ : S27) (Am_ : Option Addr) (cm_ : Nat), 1 ≤ k ∧ k ≤ l0.length ∧ v6 = .int .i64 k ∧ Aside0 (m_ = minP z27 cmp (l0.take k)) ∧ Aside0 (m_ ∈ l0) ∧ Aside0 (m_.f2.length ≤ cm_) ∧ Aside0 (Kd.C (Kd.int .i64) w Am_ m_.f2.length m_.f2) ∧ Aside0 (Sx w [(km, #[.int .i64 m_.f0, .int .i64 m_.f1, .slice Am_ m_.f2.length cm_], 27), (kr, #[.int .i64 0, .int .i64 0, .slice none 0 0], 27)] [] w')) (fun v6 _ => l0.length - (intOf v6).toNat)
  case atStart => exact ⟨1, x, A2, c2, Nat.le_refl _, h1, rfl, ⟨HE0.out.symm⟩, ⟨Hm.out⟩, ⟨Hq1.out⟩, ⟨Hq2.out⟩, ⟨HS.out⟩⟩
  case round =>
    clear HS HE0 Hm Hq1 Hq2 X0 X1 X2 hp0
    obtain ⟨k, m_, Am_, cm_, hk1, hk, rfl, HM, HMm, Hm1, Hm2, HS0⟩ := hrel
    have HS := Lib.hid HS0.out
    clear HS0
    by_cases hlt : k < l0.length
    case neg =>
      have hd : decide ((k : Int) < (l0.length : Int)) = false := decide_eq_false (by omega)
      have hkl : l0.take k = l0 := List.take_of_length_le (by omega)
      have HM2 := Lib.hid (show m_ = minP z27 cmp l0 by have := HM.out; rwa [hkl] at this)
      clear hkl
      go_wp2_with (first | ((with_reducible refine gate_dst (N := 32) rfl ?_); refine wpList_load_row rfl 27 (.tmp 5) rfl km rfl 27 #[.int .i64 m_.f0, .int .i64 m_.f1, .slice Am_ m_.f2.length cm_] (0, 0) _ (HS.out.get 0 rfl) Try.underlying27 rfl (by kernel_rfl) ?_) | ((with_reducible refine gate_store (t := 27) (p := 4) (v := .tmp 32) ?hgs ?_); (case hgs => rfl); refine wpList_store_row rfl rfl 27 4 (.tmp 32) rfl kr rfl #[.int .i64 m_.f0, .int .i64 m_.f1, .slice Am_ m_.f2.length cm_] #[.int .i64 0, .int .i64 0, .slice none 0 0] 27 (HS.out.get 1 rfl) (by rfl) (by kernel_rfl) rfl (by rfl) (fun W_ => Sx w [(km, #[.int .i64 m_.f0, .int .i64 m_.f1, .slice Am_ m_.f2.length cm_], 27), (kr, #[.int .i64 m_.f0, .int .i64 m_.f1, .slice Am_ m_.f2.length cm_], 27)] [] W_) (HS.out.row 1 rfl #[.int .i64 m_.f0, .int .i64 m_.f1, .slice Am_ m_.f2.length cm_]) ?_; rintro w4 he_; clear HS; have HS := Lib.hid he_; clear he_))
      refine bodyPost_ret (results_single (r := .cell 4 27) rfl (.cell kr 27 _ (0, 0) _ rfl (HS.out.get 1 rfl) Try.underlying27 rfl (by kernel_rfl) .nil)) rfl ?_
      rw [← HM2.out]
      exact ⟨_, _, rfl, HS.out.B⟩
    case pos =>
      have hd : decide ((k : Int) < (l0.length : Int)) = true := decide_eq_true (by omega)
      obtain ⟨ad1, A3, c3, hA, y0, y1, y2, hr1, hr2⟩ := at_job HR0.out hlt
      cases hA
      have Hy := Lib.hid (show l0.getD k z27 ∈ l0 from mem_getD hlt)
      have HT := Lib.hid (minP_take z27 cmp l0 k hk1 hlt)
      rw [← HM.out] at HT
      generalize l0.getD k z27 = y at *
      have Hr1 := Lib.hid hr1
      have Hr2 := Lib.hid hr2
      have Y0 := Lib.hid y0
      have Y1 := Lib.hid y1
      have Y2 := Lib.hid y2
      clear hr1 hr2 y0 y1 y2
      have hp0 : (0 : Int) ≤ (k : Int) := by omega
      have hpk : (k : Int) < (l0.length : Int) := by omega
      go_wp2
      go_cut [27] (fun v27 wc => v27 = .bool (decide (cmp y m_ < 0)) ∧ Aside0 (Sx w [(km, #[.int .i64 m_.f0, .int .i64 m_.f1, .slice Am_ m_.f2.length cm_], 27), (kr, #[.int .i64 0, .int .i64 0, .slice none 0 0], 27)] [] wc))
      case first =>
        have HN := Lib.hid (HS.out.below (below_drew1 (Below.refl _ _)))
        clear HS
        have HS := Lib.hid HN.out
        clear HN
        refine start_ (n := 8) (S := fun W_ => W_.heap[km]? = some (.cells #[.int .i64 m_.f0, .int .i64 m_.f1, .slice Am_ m_.f2.length cm_] 27 (0, 0)) ∧ W_.cell? (ad0.add (k * 3)) = some (.int .i64 y.f0) ∧ W_.cell? ⟨(ad0.add (k * 3)).block, (ad0.add (k * 3)).off + 1, none⟩ = some (.int .i64 y.f1) ∧ W_.cell? ⟨(ad0.add (k * 3)).block, (ad0.add (k * 3)).off + 2, none⟩ = some (.slice A3 y.f2.length c3)) (ds := []) #[false, false, false, false, false, false, false, false] (by kernel_rfl) rfl rfl ⟨HS.out.get 0 rfl, pw_cell_below HS.out.B Y0.out, pw_cell_below HS.out.B Y1.out, pw_cell_below HS.out.B Y2.out⟩ (fun hHeld => ?_)
        refine pure_ (i := 0) (N := some 20) (v := .func (.func f) #[] #[]) (a' := ?_) #[true, false, false, false, false, false, false, false] rfl rfl (by kernel_rfl) (fun _ _ _ h => h) (Or.inl ⟨by rfl, fun w' => by go_simp⟩) ?_ ?_
        rotate_left
        · simp only [Act.put, List.setIfInBounds_toArray, List.set_cons_zero, List.set_cons_succ, i64_w, i32_w]
          rfl
        refine pure_ (i := 1) (N := some 21) (v := .slice (some ad0) l0.length c0) (a' := ?_) #[true, true, false, false, false, false, false, false] rfl rfl (by kernel_rfl) (fun _ _ _ h => h) (Or.inl ⟨by rfl, fun w' => by go_simp⟩) ?_ ?_
        rotate_left
        · simp only [Act.put, List.setIfInBounds_toArray, List.set_cons_zero, List.set_cons_succ, i64_w, i32_w]
          rfl
        refine pure_ (i := 2) (N := some 22) (v := .int .i64 k) (a' := ?_) #[true, true, true, false, false, false, false, false] rfl rfl (by kernel_rfl) (fun _ _ _ h => h) (Or.inl ⟨by rfl, fun w' => by go_simp⟩) ?_ ?_
        rotate_left
        · simp only [Act.put, List.setIfInBounds_toArray, List.set_cons_zero, List.set_cons_succ, i64_w, i32_w]
          rfl
        refine pure_ (i := 3) (N := some 23) (v := .pointer (some (ad0.add (k * 3)))) (a' := ?_) #[true, true, true, true, false, false, false, false] rfl rfl (by kernel_rfl) (fun _ _ _ h => h) (Or.inl ⟨by rfl, fun w' => by go_simp⟩) ?_ ?_
        rotate_left
        · simp only [Act.put, List.setIfInBounds_toArray, List.set_cons_zero, List.set_cons_succ, i64_w, i32_w]
          rfl
        refine take_ (i := 4) (N := some 24) (v := .agg #[.int .i64 y.f0, .int .i64 y.f1, .slice A3 y.f2.length c3]) (a' := ?_) #[true, true, true, true, true, false, false, false] rfl rfl (by kernel_rfl) (fun _ _ _ h => h) (Or.inl ⟨by rfl, fun w' hs => by have s0 := hs.2.1; have s1 := hs.2.2.1; have s2 := hs.2.2.2; go_simp⟩) hHeld ?_ ?_
        rotate_left
        · simp only [Act.put, List.setIfInBounds_toArray, List.set_cons_zero, List.set_cons_succ, i64_w, i32_w]
          rfl
        refine take_ (i := 5) (N := some 25) (v := .agg #[.int .i64 m_.f0, .int .i64 m_.f1, .slice Am_ m_.f2.length cm_]) (a' := ?_) #[true, true, true, true, true, true, false, false] rfl rfl (by kernel_rfl) (fun _ _ _ h => h) (Or.inl ⟨by rfl, fun w' hs => run_load_row_ rfl km rfl 27 _ _ hs.1 Try.underlying27 rfl (by kernel_rfl)⟩) hHeld ?_ ?_
        rotate_left
        · simp only [Act.put, List.setIfInBounds_toArray, List.set_cons_zero, List.set_cons_succ, i64_w, i32_w]
          rfl
        refine one_ (i := 6) (N := some 26) #[true, true, true, true, true, true, true, false] rfl rfl (by kernel_rfl) (by decide) (fun K hK => ?_)
        refine goesVr_ he #[.agg #[.int .i64 y.f0, .int .i64 y.f1, .slice A3 y.f2.length c3], .agg #[.int .i64 m_.f0, .int .i64 m_.f1, .slice Am_ m_.f2.length cm_]] (by rfl) rfl rfl rfl (by (try simp only [List.map_toArray, List.map_cons, List.map_nil]); first | done | rfl) ?_
        refine Calls.mono (HF.out y Hy.out m_ HMm.out A3 c3 Am_ cm_ _ (Kd.C_below Hr2.out HS.out.B) Hr1.out (Kd.C_below Hm2.out HS.out.B) Hm1.out) ?_
        rintro e_ W_ ⟨rfl, hb⟩
        refine ⟨_, rfl, ?_⟩
        have HN := Lib.hid (HS.out.below hb)
        clear HS hb
        have HS := Lib.hid HN.out
        clear HN
        refine hK.out _ _ ⟨HS.out.get 0 rfl, pw_cell_below HS.out.B Y0.out, pw_cell_below HS.out.B Y1.out, pw_cell_below HS.out.B Y2.out⟩ (fun hHeld => ?_)
        clear hK K
        refine norm_ (a' := ?_) ?_ ?_
        rotate_left
        · show Act.put _ (some 26) _ = _
          simp only [Act.put, List.setIfInBounds_toArray, List.set_cons_zero, List.set_cons_succ, i64_w, i32_w]
          rfl
        refine pure_ (i := 7) (N := some 27) (v := .bool (decide (cmp y m_ < 0))) (a' := ?_) #[true, true, true, true, true, true, true, true] rfl rfl (by kernel_rfl) (fun _ _ _ h => h) (Or.inl ⟨by rfl, fun w' => by go_simp⟩) ?_ ?_
        rotate_left
        · simp only [Act.put, List.setIfInBounds_toArray, List.set_cons_zero, List.set_cons_succ, i64_w, i32_w]
          rfl
        refine done_ (by kernel_rfl) ?_
        try go_wp2
        go_meet
        exact ⟨rfl, ⟨HS.out⟩⟩
      case rest =>
        clear HS
        obtain ⟨rfl, HS0⟩ := hcut
        have HS := Lib.hid HS0.out
        clear HS0
        by_cases hc : cmp y m_ < 0
        · have hcb : decide (cmp y m_ < 0) = true := decide_eq_true hc
          rw [if_pos hc] at HT
          have y0 := pw_cell_below HS.out.B Y0.out
          have y1 := pw_cell_below HS.out.B Y1.out
          have y2 := pw_cell_below HS.out.B Y2.out
          go_wp2_with (first | ((with_reducible refine gate_store (t := 27) (p := 5) (v := .tmp 31) ?hgs ?_); (case hgs => rfl); refine wpList_store_row rfl rfl 27 5 (.tmp 31) rfl km rfl #[.int .i64 y.f0, .int .i64 y.f1, .slice A3 y.f2.length c3] #[.int .i64 m_.f0, .int .i64 m_.f1, .slice Am_ m_.f2.length cm_] 27 (HS.out.get 0 rfl) (by rfl) (by kernel_rfl) rfl (by rfl) (fun W_ => Sx w [(km, #[.int .i64 y.f0, .int .i64 y.f1, .slice A3 y.f2.length c3], 27), (kr, #[.int .i64 0, .int .i64 0, .slice none 0 0], 27)] [] W_) (HS.out.row 0 rfl #[.int .i64 y.f0, .int .i64 y.f1, .slice A3 y.f2.length c3]) ?_; rintro w4 he_; clear HS; have HS := Lib.hid he_; clear he_; clear y0 y1 y2))
          go_roundw
          case rel => exact ⟨k + 1, y, A3, c3, by omega, by omega, by go_num, ⟨HT.out.symm⟩, ⟨Hy.out⟩, ⟨Hr1.out⟩, ⟨Hr2.out⟩, ⟨HS.out⟩⟩
          case measure => simp [intOf]; omega
        · have hcb : decide (cmp y m_ < 0) = false := decide_eq_false hc
          rw [if_neg hc] at HT
          go_wp2
          go_roundw
          case rel => exact ⟨k + 1, m_, Am_, cm_, by omega, by omega, by go_num, ⟨HT.out.symm⟩, ⟨HMm.out⟩, ⟨Hm1.out⟩, ⟨Hm2.out⟩, ⟨HS.out⟩⟩
          case measure => simp [intOf]; omega
/-! ### lane_next: function 33 -/
def cmpJ (x y : S27) : Int := if x.f1 < y.f1 then -1 else if x.f1 > y.f1 then 1 else wrap64 (x.f0 - y.f0)
theorem cmpJ_eq (x y : S27) : lane_next_1.f x.f0 x.f1 x.f2 y.f0 y.f1 y.f2 = some (cmpJ x y) := by
  unfold lane_next_1.f cmpJ
  split
  · rfl
  · split <;> rfl
def nextV (l : List S27) (run : Int) : Int := if run = -1 ∧ l ≠ [] then (minP z27 cmpJ l).f0 else run
def lane_next.f (l0_0 : List S27) (a0_1 : Int) : Option Int := some (nextV l0_0 a0_1)
set_option maxHeartbeats 4000000 in
theorem lane_next.calls (A0_0 : Option Addr) (c0_0 : Nat) (l0_0 : List (S27)) (a0_1 : Int) (r : Int) (w : World) (hr0_0 : Kd.C k27 w A0_0 l0_0.length l0_0) (hc0_0 : l0_0.length ≤ c0_0) (h : lane_next.f l0_0 a0_1 = some r) :
    Calls Try.prog 33 #[.agg #[.slice A0_0 l0_0.length c0_0, .int .i64 a0_1]] w fun e w' => e = .returned (.int .i64 r) ∧ Below w.heap.size w w' := by
  unfold lane_next.f nextV at h
  have HR0 := Lib.hid hr0_0
  have HS := Lib.hid (Sx.start w)
  clear hr0_0
  by_cases cr : a0_1 = -1
  case neg =>
    rw [if_neg (fun q => cr q.1)] at h
    obtain rfl := Option.some.inj h
    have crb : (a0_1 != -1) = true := by simp [cr]
    clear cr h
    go_enter Try.func33, Try.ntmps33
    go_wp2_with (((with_reducible refine gate_dst (N := 1) rfl ?_); refine box_event ?hg (N := 1) ?hd (cs := #[.slice A0_0 l0_0.length c0_0, .int .i64 a0_1]) (t := 24) ?hr ?_; (case hd => rfl); (case hg => rfl); (case hr => first | (go_simp; done) | (go_simp; rfl)); intro kl hE_ w1 hbox hb; have HN := Lib.hid (show Sx w [(kl, #[.slice A0_0 l0_0.length c0_0, .int .i64 a0_1], 24)] [] w1 from HS.out.box hE_ hbox hb); clear HS hE_ hbox hb; have HS := Lib.hid HN.out; clear HN; have k0 : w1.cell? ⟨kl, 0, none⟩ = some (.slice A0_0 l0_0.length c0_0) := (blk_cell (HS.out.get 0 rfl) 0).trans rfl; have k1 : w1.cell? ⟨kl, 1, none⟩ = some (.int .i64 a0_1) := (blk_cell (HS.out.get 0 rfl) 1).trans rfl))
    go_ret
    exact ⟨rfl, HS.out.B⟩
  by_cases cl : l0_0 = []
  case pos =>
    rw [if_neg (fun q => q.2 cl)] at h
    obtain rfl := Option.some.inj h
    subst cr cl
    clear h
    go_enter Try.func33, Try.ntmps33
    go_wp2_with (((with_reducible refine gate_dst (N := 1) rfl ?_); refine box_event ?hg (N := 1) ?hd (cs := #[.slice A0_0 0 c0_0, .int .i64 (-1)]) (t := 24) ?hr ?_; (case hd => rfl); (case hg => rfl); (case hr => first | (go_simp; done) | (go_simp; rfl)); intro kl hE_ w1 hbox hb; have HN := Lib.hid (show Sx w [(kl, #[.slice A0_0 0 c0_0, .int .i64 (-1)], 24)] [] w1 from HS.out.box hE_ hbox hb); clear HS hE_ hbox hb; have HS := Lib.hid HN.out; clear HN; have k0 : w1.cell? ⟨kl, 0, none⟩ = some (.slice A0_0 0 c0_0) := (blk_cell (HS.out.get 0 rfl) 0).trans rfl; have k1 : w1.cell? ⟨kl, 1, none⟩ = some (.int .i64 (-1)) := (blk_cell (HS.out.get 0 rfl) 1).trans rfl))
    go_ret
    exact ⟨rfl, HS.out.B⟩
  rw [if_pos ⟨cr, cl⟩] at h
  obtain rfl := Option.some.inj h
  subst cr
  have hlb : ((l0_0.length : Int) == 0) = false := by
    have : l0_0.length ≠ 0 := fun q => cl (List.eq_nil_of_length_eq_zero q)
    simp; omega
  have Hcl := Lib.hid cl
  clear h cl
  generalize hq : minP z27 cmpJ l0_0 = q at *
  have HQ := Lib.hid hq
  clear hq
  go_enter Try.func33, Try.ntmps33
  go_wp2_with (first | ((with_reducible refine gate_dst (N := 1) rfl ?_); refine box_event ?hg (N := 1) ?hd (cs := #[.slice A0_0 l0_0.length c0_0, .int .i64 (-1)]) (t := 24) ?hr ?_; (case hd => rfl); (case hg => rfl); (case hr => first | (go_simp; done) | (go_simp; rfl)); intro kl hE_ w1 hbox hb; have HN := Lib.hid (show Sx w [(kl, #[.slice A0_0 l0_0.length c0_0, .int .i64 (-1)], 24)] [] w1 from HS.out.box hE_ hbox hb); clear HS hE_ hbox hb; have HS := Lib.hid HN.out; clear HN; have k0 : w1.cell? ⟨kl, 0, none⟩ = some (.slice A0_0 l0_0.length c0_0) := (blk_cell (HS.out.get 0 rfl) 0).trans rfl; have k1 : w1.cell? ⟨kl, 1, none⟩ = some (.int .i64 (-1)) := (blk_cell (HS.out.get 0 rfl) 1).trans rfl) | (go_at_call 46; refine Calls.mono (minJobs_calls cmpJ 47 A0_0 c0_0 l0_0 Hcl.out _ (Kd.C_below HR0.out HS.out.B) enters_next (fun x _ y _ A c A' c' W h1 h2 h3 h4 => lane_next_1.calls x.f0 x.f1 A c x.f2 y.f0 y.f1 A' c' y.f2 _ W h1 h2 h3 h4 (cmpJ_eq x y))) ?_; rw [HQ.out]; rintro e_ w2 ⟨Aq, cq, rfl, hb⟩; have HN := Lib.hid (show Sx w [(kl, #[.slice A0_0 l0_0.length c0_0, .int .i64 (-1)], 24)] [] w2 from HS.out.below hb); clear HS hb; have HS := Lib.hid HN.out; clear HN; clear k0 k1) | ((with_reducible refine gate_dst (N := 3) rfl ?_); refine box_event ?hg (N := 3) ?hd (cs := #[.int .i64 0, .int .i64 0, .slice none 0 0]) (t := 27) ?hr ?_; (case hd => rfl); (case hg => rfl); (case hr => first | (go_simp; done) | (go_simp; rfl)); intro km hE_ w3 hbox hb; have HN := Lib.hid (show Sx w [(km, #[.int .i64 0, .int .i64 0, .slice none 0 0], 27), (kl, #[.slice A0_0 l0_0.length c0_0, .int .i64 (-1)], 24)] [] w3 from HS.out.box hE_ hbox hb); clear HS hE_ hbox hb; have HS := Lib.hid HN.out; clear HN) | ((with_reducible refine gate_store (t := 27) (p := 3) (v := .tmp 17) ?hgs ?_); (case hgs => rfl); refine wpList_store_row rfl rfl 27 3 (.tmp 17) rfl km rfl #[.int .i64 q.f0, .int .i64 q.f1, .slice Aq q.f2.length cq] #[.int .i64 0, .int .i64 0, .slice none 0 0] 27 (HS.out.get 0 rfl) (by rfl) (by kernel_rfl) rfl (by rfl) (fun W_ => Sx w [(km, #[.int .i64 q.f0, .int .i64 q.f1, .slice Aq q.f2.length cq], 27), (kl, #[.slice A0_0 l0_0.length c0_0, .int .i64 (-1)], 24)] [] W_) (HS.out.row 0 rfl #[.int .i64 q.f0, .int .i64 q.f1, .slice Aq q.f2.length cq]) ?_; rintro w4 he_; clear HS; have HS := Lib.hid he_; clear he_; have f0 : w4.cell? ⟨km, 0, none⟩ = some (.int .i64 q.f0) := (blk_cell (HS.out.get 0 rfl) 0).trans rfl))
  go_ret
  exact ⟨rfl, HS.out.B⟩
end Go.Proofs.Yteodhffgnkdcfaa.Q
