import Derived.Test.YteodhffgnkdcfaaQx0
namespace Go.Proofs.Yteodhffgnkdcfaa.Q
open Go.RowKit Go.Proofs.YteodhffgnkdcfaaW.PrintWords Go.Proofs.YteodhffgnkdcfaaW.PrintLast Go.Proofs.YteodhffgnkdcfaaW.PrintMore
attribute [local go_sem] max2_int min2_int max_two min_two max_three min_three max_four min_four
set_option linter.unusedVariables false
set_option linter.unusedSimpArgs false
def idxP {α : Type} (p : α → Bool) (l : List α) : Int := if (l.findIdx p) < l.length then ((l.findIdx p : Nat) : Int) else -1
theorem idxP_at {α : Type} {d : α} {p : α → Bool} {l : List α} {k : Nat} (h : ∀ j, j < k → p (l.getD j d) = false) (hk : k < l.length) (hb : p (l.getD k d) = true) : idxP p l = k := by
  have e : l.findIdx p = k := by
    refine (List.findIdx_eq hk).2 ⟨?_, fun j hj => ?_⟩
    · rw [List.getD_eq_getElem?_getD, List.getElem?_eq_getElem hk, Option.getD_some] at hb
      exact hb
    · have := h j hj
      rw [List.getD_eq_getElem?_getD, List.getElem?_eq_getElem (by omega), Option.getD_some] at this
      exact this
  unfold idxP
  rw [e, if_pos hk]
theorem idxP_none {α : Type} {d : α} {p : α → Bool} {l : List α} (h : ∀ j, j < l.length → p (l.getD j d) = false) : idxP p l = -1 := by
  have e : l.findIdx p = l.length := List.findIdx_eq_length.2 fun x hx => by
    obtain ⟨j, hj, rfl⟩ := List.mem_iff_getElem.1 hx
    have := h j hj
    rwa [List.getD_eq_getElem?_getD, List.getElem?_eq_getElem hj, Option.getD_some] at this
  unfold idxP
  rw [e, if_neg (by omega)]
theorem idxP_any {α : Type} (p : α → Bool) (l : List α) : decide (0 ≤ idxP p l) = l.any p := by
  unfold idxP
  by_cases h : l.findIdx p < l.length
  · rw [if_pos h]
    have h1 : p l[l.findIdx p] = true := List.findIdx_getElem
    have : l.any p = true := List.any_eq_true.2 ⟨_, List.getElem_mem h, h1⟩
    rw [this]; simp
  · rw [if_neg h]
    have e : l.findIdx p = l.length := Nat.le_antisymm List.findIdx_le_length (by omega)
    have h2 := List.findIdx_eq_length.1 e
    have : l.any p = false := List.any_eq_false.2 (fun x hx => by simp [h2 x hx])
    rw [this]; rfl
set_option maxHeartbeats 2000000 in
theorem indexInt_calls (p : Int → Bool) (f : FuncId) (caps : Array Value) (A0 : Option Addr) (c0 : Nat) (l0 : List (Int)) (w : World) (hr : Kd.C (Kd.int .i64) w A0 l0.length l0)
    (he : ∀ args W, (callFunc f args).run Try.prog W = .ok (.enter f args) W)
    (hf : ∀ s ∈ l0, ∀ (A_ : Option Addr) (c_ : Nat) (W : World), Below w.heap.size w W → Calls Try.prog f (#[.int .i64 s] ++ caps) W fun e w' => e = .returned (.bool (p s)) ∧ Below W.heap.size W w') :
    Calls Try.prog 48 #[.slice A0 l0.length c0, .func (.func f) #[] caps] w fun e w' => e = .returned (.int .i64 (idxP p l0)) ∧ Below w.heap.size w w' := by
  have hl := kd_len hr
  have HR := Aside0.mk hr
  have HF := fun s hs A c W h => Lib.hid (hf s hs A c W h)
  clear hr hf
  go_enter Try.func48, Try.ntmps48
  go_wp2
  go_loopw [8] (fun i w' => ∃ k : Nat, k ≤ l0.length ∧ i = .int .i64 k ∧ Aside0 (∀ j, j < k → p (l0.getD j (0)) = false) ∧ Aside0 (Below w.heap.size w w')) (fun i _ => l0.length - (intOf i).toNat)
  case atStart => exact ⟨0, Nat.zero_le _, rfl, ⟨fun j hj => absurd hj (by omega)⟩, ⟨Below.refl _ _⟩⟩
  case round =>
    obtain ⟨k, hk, rfl, hb, HB⟩ := hrel
    by_cases hlt : k < l0.length
    · obtain ⟨ad, hA, x0⟩ := Kd.at_int (Kd.C_below HR.out HB.out) (k : Int) (by omega) (by omega)
      cases hA
      have hxe : rd l0 (k : Int) = l0.getD k (0) := by unfold rd; rw [Int.toNat_natCast]
      rw [hxe] at x0
      (try simp only [Int.toNat_natCast] at x0)
      obtain ⟨x, hx⟩ : ∃ x, l0.getD k (0) = x := ⟨_, rfl⟩
      rw [hx] at x0
      have hmem : x ∈ l0 := by
        rw [← hx, List.getD_eq_getElem?_getD, List.getElem?_eq_getElem hlt, Option.getD_some]
        exact List.getElem_mem hlt
      have C := HF x hmem none 0 _ HB.out
      clear hxe hmem
      cases hv : p x with
      | true =>
        have E := Lib.hid (idxP_at hb.out hlt (hx ▸ hv))
        rw [hv] at C
        clear hv hx hb
        skip
        go_wp2_with ((with_reducible refine C.out.mono ?_); rintro e w' ⟨rfl, hb2⟩)
        go_ret
        rw [E.out]
        exact ⟨rfl, below_step HB.out hb2⟩
      | false =>
        rw [hv] at C
        have hb2 : Aside0 (∀ j, j < k + 1 → p (l0.getD j (0)) = false) := ⟨fun j hj => by
          rcases Nat.lt_or_ge j k with h1 | h1
          · exact hb.out j h1
          · obtain rfl : j = k := by omega
            rw [hx]; exact hv⟩
        clear hv hx hb
        skip
        go_wp2_with ((with_reducible refine C.out.mono ?_); rintro e w' ⟨rfl, hb3⟩)
        go_roundw
        case rel => exact ⟨k + 1, by omega, by go_num, hb2, ⟨below_step HB.out hb3⟩⟩
        case measure => simp [intOf]; omega
    · have E := Lib.hid (idxP_none (p := p) (l := l0) fun j hj => hb.out j (by omega))
      go_wp2
      go_ret
      rw [E.out]
      exact ⟨rfl, HB.out⟩
set_option maxHeartbeats 1000000 in
theorem containsInt_calls (p : Int → Bool) (f : FuncId) (A0 : Option Addr) (c0 : Nat) (l0 : List Int) (w : World) (hr : Kd.C (Kd.int .i64) w A0 l0.length l0)
    (he : ∀ args W, (callFunc f args).run Try.prog W = .ok (.enter f args) W)
    (hf : ∀ s ∈ l0, ∀ (W : World), Below w.heap.size w W → Calls Try.prog f #[.int .i64 s] W fun e w' => e = .returned (.bool (p s)) ∧ Below W.heap.size W w') :
    Calls Try.prog 39 #[.slice A0 l0.length c0, .func (.func f) #[] #[]] w fun e w' => e = .returned (.bool (l0.any p)) ∧ Below w.heap.size w w' := by
  have C := Lib.hid (indexInt_calls p f #[] A0 c0 l0 w hr he (fun s hs _ _ W hb => hf s hs W hb))
  have E := Lib.hid (idxP_any p l0)
  clear hr hf
  generalize idxP p l0 = j at *
  go_enter Try.func39, Try.ntmps39
  go_wp2_with (go_at_call 48; refine C.out.mono ?_; rintro e w' ⟨rfl, hb⟩)
  go_ret
  rw [← E.out]
  exact ⟨rfl, hb⟩
def oddN (n : Int) : Bool := decide (n < 1) || decide (n > 1000)
theorem enters_odd : ∀ args W, (callFunc 38 args).run Try.prog W = .ok (.enter 38 args) W := enters_ Try.func38 (by kernel_rfl) rfl
set_option maxHeartbeats 1000000 in
theorem odd_calls (n : Int) (w : World) : Calls Try.prog 38 #[.int .i64 n] w fun e w' => e = .returned (.bool (oddN n)) ∧ Below w.heap.size w w' := by
  by_cases h : n < 1
  · have e : oddN n = true := by unfold oddN; simp [h]
    rw [e]
    have hb : decide (n < 1) = true := decide_eq_true h
    clear h e
    go_enter Try.func38, Try.ntmps38
    go_wp2
    go_ret
    exact ⟨rfl, Below.refl _ _⟩
  · have e : oddN n = decide (n > 1000) := by unfold oddN; simp [h]
    rw [e]
    have hb : decide (n < 1) = false := decide_eq_false h
    clear h e
    go_enter Try.func38, Try.ntmps38
    go_wp2
    go_ret
    exact ⟨rfl, Below.refl _ _⟩
def jobB (t d : Int) (l : List Int) : Bool := decide (t ≥ 0) && (decide (t < 8) && (decide (d ≥ 0) && (decide (d ≤ 1099511627775) && (decide ((l.length : Int) ≥ 1) && (decide ((l.length : Int) ≤ 64) && !l.any oddN)))))
/-! ### lane_job: function 25 -/
def lane_job.f (a0_0 a0_1 : Int) (l0_2 : List Int) : Option Bool := some (jobB a0_0 a0_1 l0_2)
set_option maxHeartbeats 4000000 in
theorem lane_job.calls (a0_0 : Int) (a0_1 : Int) (A0_2 : Option Addr) (c0_2 : Nat) (l0_2 : List Int) (r : Bool) (w : World) (hr0_2 : Kd.C (Kd.int .i64) w A0_2 l0_2.length l0_2) (hc0_2 : l0_2.length ≤ c0_2) (h : lane_job.f a0_0 a0_1 l0_2 = some r) :
    Calls Try.prog 25 #[.agg #[.int .i64 a0_0, .int .i64 a0_1, .slice A0_2 l0_2.length c0_2]] w fun e w' => e = .returned (.bool r) ∧ Below w.heap.size w w' := by
  obtain rfl := Option.some.inj h
  have C := fun W hb => Lib.hid (containsInt_calls oddN 38 A0_2 c0_2 l0_2 W (Kd.C_below hr0_2 hb) enters_odd (fun s _ W _ => odd_calls s W))
  have HR := Lib.hid hr0_2
  clear hr0_2 h
  generalize hj : jobB a0_0 a0_1 l0_2 = r at *
  have HJ := Lib.hid hj
  clear hj
  by_cases c0 : a0_0 ≥ 0
  case neg =>
    have c0b : decide (a0_0 ≥ 0) = false := decide_eq_false c0
    obtain rfl : r = false := by rw [← HJ.out]; unfold jobB; simp only [c0b, Bool.true_and, Bool.false_and]
    clear c0 C
    go_enter Try.func25, Try.ntmps25
    go_wp2_with ((with_reducible refine gate_dst (N := 1) rfl ?_); refine box_event ?hg (N := 1) ?hd (cs := #[.int .i64 a0_0, .int .i64 a0_1, .slice A0_2 l0_2.length c0_2]) (t := 27) ?hr ?_; (case hd => rfl); (case hg => rfl); (case hr => first | (go_simp; done) | (go_simp; rfl)); intro kb hE_ w1 hbox hb; have HB := Lib.hid hb; have k0 : w1.cell? ⟨kb, 0, none⟩ = some (.int .i64 a0_0) := (blk_cell hbox 0).trans rfl; have k1 : w1.cell? ⟨kb, 1, none⟩ = some (.int .i64 a0_1) := (blk_cell hbox 1).trans rfl; have k2 : w1.cell? ⟨kb, 2, none⟩ = some (.slice A0_2 l0_2.length c0_2) := (blk_cell hbox 2).trans rfl; clear hE_ hbox hb)
    go_ret
    exact ⟨rfl, HB.out⟩
  have c0b : decide (a0_0 ≥ 0) = true := decide_eq_true c0
  clear c0
  by_cases c1 : a0_0 < 8
  case neg =>
    have c1b : decide (a0_0 < 8) = false := decide_eq_false c1
    obtain rfl : r = false := by rw [← HJ.out]; unfold jobB; simp only [c0b, c1b, Bool.true_and, Bool.false_and]
    clear c1 C
    go_enter Try.func25, Try.ntmps25
    go_wp2_with ((with_reducible refine gate_dst (N := 1) rfl ?_); refine box_event ?hg (N := 1) ?hd (cs := #[.int .i64 a0_0, .int .i64 a0_1, .slice A0_2 l0_2.length c0_2]) (t := 27) ?hr ?_; (case hd => rfl); (case hg => rfl); (case hr => first | (go_simp; done) | (go_simp; rfl)); intro kb hE_ w1 hbox hb; have HB := Lib.hid hb; have k0 : w1.cell? ⟨kb, 0, none⟩ = some (.int .i64 a0_0) := (blk_cell hbox 0).trans rfl; have k1 : w1.cell? ⟨kb, 1, none⟩ = some (.int .i64 a0_1) := (blk_cell hbox 1).trans rfl; have k2 : w1.cell? ⟨kb, 2, none⟩ = some (.slice A0_2 l0_2.length c0_2) := (blk_cell hbox 2).trans rfl; clear hE_ hbox hb)
    go_ret
    exact ⟨rfl, HB.out⟩
  have c1b : decide (a0_0 < 8) = true := decide_eq_true c1
  clear c1
  by_cases c2 : a0_1 ≥ 0
  case neg =>
    have c2b : decide (a0_1 ≥ 0) = false := decide_eq_false c2
    obtain rfl : r = false := by rw [← HJ.out]; unfold jobB; simp only [c0b, c1b, c2b, Bool.true_and, Bool.false_and]
    clear c2 C
    go_enter Try.func25, Try.ntmps25
    go_wp2_with ((with_reducible refine gate_dst (N := 1) rfl ?_); refine box_event ?hg (N := 1) ?hd (cs := #[.int .i64 a0_0, .int .i64 a0_1, .slice A0_2 l0_2.length c0_2]) (t := 27) ?hr ?_; (case hd => rfl); (case hg => rfl); (case hr => first | (go_simp; done) | (go_simp; rfl)); intro kb hE_ w1 hbox hb; have HB := Lib.hid hb; have k0 : w1.cell? ⟨kb, 0, none⟩ = some (.int .i64 a0_0) := (blk_cell hbox 0).trans rfl; have k1 : w1.cell? ⟨kb, 1, none⟩ = some (.int .i64 a0_1) := (blk_cell hbox 1).trans rfl; have k2 : w1.cell? ⟨kb, 2, none⟩ = some (.slice A0_2 l0_2.length c0_2) := (blk_cell hbox 2).trans rfl; clear hE_ hbox hb)
    go_ret
    exact ⟨rfl, HB.out⟩
  have c2b : decide (a0_1 ≥ 0) = true := decide_eq_true c2
  clear c2
  by_cases c3 : a0_1 ≤ 1099511627775
  case neg =>
    have c3b : decide (a0_1 ≤ 1099511627775) = false := decide_eq_false c3
    obtain rfl : r = false := by rw [← HJ.out]; unfold jobB; simp only [c0b, c1b, c2b, c3b, Bool.true_and, Bool.false_and]
    clear c3 C
    go_enter Try.func25, Try.ntmps25
    go_wp2_with ((with_reducible refine gate_dst (N := 1) rfl ?_); refine box_event ?hg (N := 1) ?hd (cs := #[.int .i64 a0_0, .int .i64 a0_1, .slice A0_2 l0_2.length c0_2]) (t := 27) ?hr ?_; (case hd => rfl); (case hg => rfl); (case hr => first | (go_simp; done) | (go_simp; rfl)); intro kb hE_ w1 hbox hb; have HB := Lib.hid hb; have k0 : w1.cell? ⟨kb, 0, none⟩ = some (.int .i64 a0_0) := (blk_cell hbox 0).trans rfl; have k1 : w1.cell? ⟨kb, 1, none⟩ = some (.int .i64 a0_1) := (blk_cell hbox 1).trans rfl; have k2 : w1.cell? ⟨kb, 2, none⟩ = some (.slice A0_2 l0_2.length c0_2) := (blk_cell hbox 2).trans rfl; clear hE_ hbox hb)
    go_ret
    exact ⟨rfl, HB.out⟩
  have c3b : decide (a0_1 ≤ 1099511627775) = true := decide_eq_true c3
  clear c3
  by_cases c4 : (l0_2.length : Int) ≥ 1
  case neg =>
    have c4b : decide ((l0_2.length : Int) ≥ 1) = false := decide_eq_false c4
    obtain rfl : r = false := by rw [← HJ.out]; unfold jobB; simp only [c0b, c1b, c2b, c3b, c4b, Bool.true_and, Bool.false_and]
    clear c4 C
    go_enter Try.func25, Try.ntmps25
    go_wp2_with ((with_reducible refine gate_dst (N := 1) rfl ?_); refine box_event ?hg (N := 1) ?hd (cs := #[.int .i64 a0_0, .int .i64 a0_1, .slice A0_2 l0_2.length c0_2]) (t := 27) ?hr ?_; (case hd => rfl); (case hg => rfl); (case hr => first | (go_simp; done) | (go_simp; rfl)); intro kb hE_ w1 hbox hb; have HB := Lib.hid hb; have k0 : w1.cell? ⟨kb, 0, none⟩ = some (.int .i64 a0_0) := (blk_cell hbox 0).trans rfl; have k1 : w1.cell? ⟨kb, 1, none⟩ = some (.int .i64 a0_1) := (blk_cell hbox 1).trans rfl; have k2 : w1.cell? ⟨kb, 2, none⟩ = some (.slice A0_2 l0_2.length c0_2) := (blk_cell hbox 2).trans rfl; clear hE_ hbox hb)
    go_ret
    exact ⟨rfl, HB.out⟩
  have c4b : decide ((l0_2.length : Int) ≥ 1) = true := decide_eq_true c4
  clear c4
  by_cases c5 : (l0_2.length : Int) ≤ 64
  case neg =>
    have c5b : decide ((l0_2.length : Int) ≤ 64) = false := decide_eq_false c5
    obtain rfl : r = false := by rw [← HJ.out]; unfold jobB; simp only [c0b, c1b, c2b, c3b, c4b, c5b, Bool.true_and, Bool.false_and]
    clear c5 C
    go_enter Try.func25, Try.ntmps25
    go_wp2_with ((with_reducible refine gate_dst (N := 1) rfl ?_); refine box_event ?hg (N := 1) ?hd (cs := #[.int .i64 a0_0, .int .i64 a0_1, .slice A0_2 l0_2.length c0_2]) (t := 27) ?hr ?_; (case hd => rfl); (case hg => rfl); (case hr => first | (go_simp; done) | (go_simp; rfl)); intro kb hE_ w1 hbox hb; have HB := Lib.hid hb; have k0 : w1.cell? ⟨kb, 0, none⟩ = some (.int .i64 a0_0) := (blk_cell hbox 0).trans rfl; have k1 : w1.cell? ⟨kb, 1, none⟩ = some (.int .i64 a0_1) := (blk_cell hbox 1).trans rfl; have k2 : w1.cell? ⟨kb, 2, none⟩ = some (.slice A0_2 l0_2.length c0_2) := (blk_cell hbox 2).trans rfl; clear hE_ hbox hb)
    go_ret
    exact ⟨rfl, HB.out⟩
  have c5b : decide ((l0_2.length : Int) ≤ 64) = true := decide_eq_true c5
  clear c5
  have e : r = !l0_2.any oddN := by rw [← HJ.out]; unfold jobB; simp only [c0b, c1b, c2b, c3b, c4b, c5b, Bool.true_and]
  generalize l0_2.any oddN = q at *
  subst e
  clear HJ
  go_enter Try.func25, Try.ntmps25
  go_wp2_with (first | ((with_reducible refine gate_dst (N := 1) rfl ?_); refine box_event ?hg (N := 1) ?hd (cs := #[.int .i64 a0_0, .int .i64 a0_1, .slice A0_2 l0_2.length c0_2]) (t := 27) ?hr ?_; (case hd => rfl); (case hg => rfl); (case hr => first | (go_simp; done) | (go_simp; rfl)); intro kb hE_ w1 hbox hb; have HB := Lib.hid hb; have k0 : w1.cell? ⟨kb, 0, none⟩ = some (.int .i64 a0_0) := (blk_cell hbox 0).trans rfl; have k1 : w1.cell? ⟨kb, 1, none⟩ = some (.int .i64 a0_1) := (blk_cell hbox 1).trans rfl; have k2 : w1.cell? ⟨kb, 2, none⟩ = some (.slice A0_2 l0_2.length c0_2) := (blk_cell hbox 2).trans rfl; clear hE_ hbox hb) | (go_at_call 39; refine (C _ HB.out).out.mono ?_; rintro e w2 ⟨rfl, hb2⟩))
  go_ret
  exact ⟨rfl, below_step HB.out hb2⟩
end Go.Proofs.Yteodhffgnkdcfaa.Q
