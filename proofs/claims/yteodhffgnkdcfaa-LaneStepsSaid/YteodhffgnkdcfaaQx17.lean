import Derived.Test.YteodhffgnkdcfaaQx0
import Derived.Test.YteodhffgnkdcfaaQx1
import Derived.Test.YteodhffgnkdcfaaQx2
import Derived.Test.YteodhffgnkdcfaaQx5
import Derived.Test.YteodhffgnkdcfaaQx11
import Derived.Test.YteodhffgnkdcfaaQx14
import Derived.Test.YteodhffgnkdcfaaQx16
namespace Go.Proofs.Yteodhffgnkdcfaa.Q
open Go.RowKit Go.Proofs.YteodhffgnkdcfaaW.PrintWords Go.Proofs.YteodhffgnkdcfaaW.PrintLast Go.Proofs.YteodhffgnkdcfaaW.PrintMore
attribute [local go_sem] max2_int min2_int max_two min_two max_three min_three max_four min_four
set_option linter.unusedVariables false
set_option linter.unusedSimpArgs false
attribute [local go_sem high] eqA36
theorem enters_same : ∀ args W, (callFunc 36 args).run Try.prog W = .ok (.enter 36 args) W := enters_ Try.func36 (by kernel_rfl) rfl
def eqP {α : Type} (p : α → α → Bool) (l m : List α) : Bool := decide (l.length = m.length) && (List.zipWith p l m).all id
theorem eqP_len {α : Type} {p : α → α → Bool} {l m : List α} (h : l.length ≠ m.length) : eqP p l m = false := by unfold eqP; simp [h]
theorem eqP_at {α : Type} {p : α → α → Bool} {l m : List α} {z : α} {k : Nat} (h1 : k < l.length) (h2 : k < m.length) (h : p (l.getD k z) (m.getD k z) = false) : eqP p l m = false := by
  unfold eqP
  rw [Bool.and_eq_false_iff]
  right
  rw [List.all_eq_false]
  rw [List.getD_eq_getElem?_getD, List.getD_eq_getElem?_getD, List.getElem?_eq_getElem h1, List.getElem?_eq_getElem h2] at h
  refine ⟨p l[k] m[k], ?_, by simpa using h⟩
  rw [List.mem_iff_getElem]
  exact ⟨k, by rw [List.length_zipWith]; omega, by rw [List.getElem_zipWith]⟩
theorem eqP_all {α : Type} {p : α → α → Bool} {l m : List α} {z : α} (hl : l.length = m.length) (h : ∀ k, k < l.length → p (l.getD k z) (m.getD k z) = true) : eqP p l m = true := by
  unfold eqP
  rw [Bool.and_eq_true]
  refine ⟨by simp [hl], ?_⟩
  rw [List.all_eq_true]
  intro x hx
  obtain ⟨k, hk, rfl⟩ := List.mem_iff_getElem.1 hx
  rw [List.length_zipWith] at hk
  rw [List.getElem_zipWith]
  have := h k (by omega)
  rwa [List.getD_eq_getElem?_getD, List.getD_eq_getElem?_getD, List.getElem?_eq_getElem (by omega), List.getElem?_eq_getElem (by omega)] at this
set_option maxHeartbeats 4000000 in
theorem equalJobs_calls (p : S27 → S27 → Bool) (f : FuncId) (A0 : Option Addr) (c0 : Nat) (l0 : List S27) (A1 : Option Addr) (c1 : Nat) (l1 : List S27) (w : World) (hr0 : Kd.C k27 w A0 l0.length l0) (hr1 : Kd.C k27 w A1 l1.length l1)
    (he : ∀ args W, (callFunc f args).run Try.prog W = .ok (.enter f args) W)
    (hf : ∀ x ∈ l0, ∀ y ∈ l1, ∀ (A : Option Addr) (c : Nat) (A' : Option Addr) (c' : Nat) (W : World), Kd.C (Kd.int .i64) W A x.f2.length x.f2 → x.f2.length ≤ c → Kd.C (Kd.int .i64) W A' y.f2.length y.f2 → y.f2.length ≤ c' → Calls Try.prog f #[.agg #[.int .i64 x.f0, .int .i64 x.f1, .slice A x.f2.length c], .agg #[.int .i64 y.f0, .int .i64 y.f1, .slice A' y.f2.length c']] W fun e w' => e = .returned (.bool (p x y)) ∧ Below W.heap.size W w') :
    Calls Try.prog 35 #[.slice A0 l0.length c0, .slice A1 l1.length c1, .func (.func f) #[] #[]] w fun e w' => e = .returned (.bool (eqP p l0 l1)) ∧ Below w.heap.size w w' := by
  have hl0 := kd_len hr0
  have hl1 := kd_len hr1
  have HR0 := Lib.hid hr0
  have HR1 := Lib.hid hr1
  have HF := Lib.hid hf
  clear hr0 hr1 hf
  by_cases hlen : l0.length = l1.length
  case neg =>
    have E := Lib.hid (eqP_len (p := p) hlen)
    have hb : ((l0.length : Int) != (l1.length : Int)) = true := by simp; omega
    clear hlen
    go_enter Try.func35, Try.ntmps35
    go_wp2
    go_ret
    rw [E.out]
    exact ⟨rfl, Below.refl _ _⟩
  have hb : ((l0.length : Int) != (l1.length : Int)) = false := by simp [hlen]
  have HL := Lib.hid hlen
  clear hlen
  go_enter Try.func35, Try.ntmps35
  go_wp2
  go_loopw [17] (fun v w' => ∃ k : Nat, k ≤ l0.length ∧ v = .int .i64 k ∧ Aside0 (∀ j, j < k → p (l0.getD j z27) (l1.getD j z27) = true) ∧ Aside0 (Below w.heap.size w w')) (fun v _ => l0.length - (intOf v).toNat)
  case atStart => exact ⟨0, Nat.zero_le _, rfl, ⟨fun j hj => absurd hj (by omega)⟩, ⟨Below.refl _ _⟩⟩
  case round =>
    obtain ⟨k, hk, rfl, HA, HB⟩ := hrel
    by_cases hlt : k < l0.length
    case neg =>
      have E := Lib.hid (eqP_all (p := p) (z := z27) HL.out (fun j hj => HA.out j (by omega)))
      have hd : decide ((k : Int) < (l0.length : Int)) = false := decide_eq_false (by omega)
      go_wp2
      go_ret
      rw [E.out]
      exact ⟨rfl, HB.out⟩
    have hlt1 : k < l1.length := by have := HL.out; omega
    have hd : decide ((k : Int) < (l0.length : Int)) = true := decide_eq_true (by omega)
    have HS := Lib.hid (Sx.start wr)
    obtain ⟨ad0, A2, c2, hA, x0, x1, x2, hq1, hq2⟩ := at_job (Kd.C_below HR0.out HB.out) hlt
    cases hA
    have Hq1 := Lib.hid hq1
    have Hq2 := Lib.hid hq2
    obtain ⟨ad1, A3, c3, hA1, y0, y1, y2, hr1_, hr2_⟩ := at_job (Kd.C_below HR1.out HB.out) hlt1
    cases hA1
    have Hr1 := Lib.hid hr1_
    have Hr2 := Lib.hid hr2_
    obtain ⟨x, hx⟩ : ∃ x, l0.getD k z27 = x := ⟨_, rfl⟩
    obtain ⟨y, hy⟩ : ∃ y, l1.getD k z27 = y := ⟨_, rfl⟩
    have Hmx := Lib.hid (show x ∈ l0 from hx ▸ mem_getD hlt)
    have Hmy := Lib.hid (show y ∈ l1 from hy ▸ mem_getD hlt1)
    have HXY := Lib.hid (And.intro hx hy)
    rw [hx] at x0 x1 x2 Hq1 Hq2
    rw [hy] at y0 y1 y2 Hr1 Hr2
    have Y0 := Lib.hid y0
    have Y1 := Lib.hid y1
    have Y2 := Lib.hid y2
    clear hx hy hq1 hq2 hr1_ hr2_ y0 y1 y2
    have Hl1 := Lib.hid hlt1
    clear hlt1
    cases hv : p x y with
    | false =>
      have HV := Lib.hid hv
      clear hv
      have E := Lib.hid (eqP_at (p := p) (z := z27) hlt Hl1.out (by rw [HXY.out.1, HXY.out.2]; exact HV.out))
      go_wp2_with (first | ((with_reducible refine gate_dst (N := 8) rfl ?_); refine box_event ?hg (N := 8) ?hd (cs := #[.int .i64 0, .int .i64 0, .slice none 0 0]) (t := 27) ?hr ?_; (case hd => rfl); (case hg => rfl); (case hr => first | (go_simp; done) | (go_simp; rfl)); intro ka hE_ w1 hbox hb; have HN := Lib.hid (show Sx wr [(ka, #[.int .i64 0, .int .i64 0, .slice none 0 0], 27)] [] w1 from HS.out.box hE_ hbox hb); clear HS hE_ hbox hb; have HS := Lib.hid HN.out; clear HN) | ((with_reducible refine gate_store (t := 27) (p := 8) (v := .tmp 21) ?hgs ?_); (case hgs => rfl); refine wpList_store_row rfl rfl 27 8 (.tmp 21) rfl ka rfl #[.int .i64 x.f0, .int .i64 x.f1, .slice A2 x.f2.length c2] #[.int .i64 0, .int .i64 0, .slice none 0 0] 27 (HS.out.get 0 rfl) (by rfl) (by kernel_rfl) rfl (by rfl) (fun W_ => Sx wr [(ka, #[.int .i64 x.f0, .int .i64 x.f1, .slice A2 x.f2.length c2], 27)] [] W_) (HS.out.row 0 rfl #[.int .i64 x.f0, .int .i64 x.f1, .slice A2 x.f2.length c2]) ?_; rintro w2 he_; clear HS; have HS := Lib.hid he_; clear he_; clear x0 x1 x2; have y0 := pw_cell_below HS.out.B Y0.out; have y1 := pw_cell_below HS.out.B Y1.out; have y2 := pw_cell_below HS.out.B Y2.out) | ((with_reducible refine gate_dst (N := 9) rfl ?_); refine box_event ?hg (N := 9) ?hd (cs := #[.int .i64 0, .int .i64 0, .slice none 0 0]) (t := 27) ?hr ?_; (case hd => rfl); (case hg => rfl); (case hr => first | (go_simp; done) | (go_simp; rfl)); intro kb hE_ w3 hbox hb; have HN := Lib.hid (show Sx wr [(kb, #[.int .i64 0, .int .i64 0, .slice none 0 0], 27), (ka, #[.int .i64 x.f0, .int .i64 x.f1, .slice A2 x.f2.length c2], 27)] [] w3 from HS.out.box hE_ hbox hb); clear HS hE_ hbox hb; have HS := Lib.hid HN.out; clear HN) | ((with_reducible refine gate_store (t := 27) (p := 9) (v := .tmp 25) ?hgs ?_); (case hgs => rfl); refine wpList_store_row rfl rfl 27 9 (.tmp 25) rfl kb rfl #[.int .i64 y.f0, .int .i64 y.f1, .slice A3 y.f2.length c3] #[.int .i64 0, .int .i64 0, .slice none 0 0] 27 (HS.out.get 0 rfl) (by rfl) (by kernel_rfl) rfl (by rfl) (fun W_ => Sx wr [(kb, #[.int .i64 y.f0, .int .i64 y.f1, .slice A3 y.f2.length c3], 27), (ka, #[.int .i64 x.f0, .int .i64 x.f1, .slice A2 x.f2.length c2], 27)] [] W_) (HS.out.row 0 rfl #[.int .i64 y.f0, .int .i64 y.f1, .slice A3 y.f2.length c3]) ?_; rintro w4 he_; clear HS; have HS := Lib.hid he_; clear he_; clear y0 y1 y2) | ((with_reducible refine gate_dst (N := 27) rfl ?_); refine wpList_load_row rfl 27 (.tmp 8) rfl ka rfl 27 #[.int .i64 x.f0, .int .i64 x.f1, .slice A2 x.f2.length c2] (0, 0) _ (HS.out.get 1 rfl) Try.underlying27 rfl (by kernel_rfl) ?_) | ((with_reducible refine gate_dst (N := 28) rfl ?_); refine wpList_load_row rfl 27 (.tmp 9) rfl kb rfl 27 #[.int .i64 y.f0, .int .i64 y.f1, .slice A3 y.f2.length c3] (0, 0) _ (HS.out.get 0 rfl) Try.underlying27 rfl (by kernel_rfl) ?_) | ((with_reducible refine at_args_ #[.agg #[.int .i64 x.f0, .int .i64 x.f1, .slice A2 x.f2.length c2], .agg #[.int .i64 y.f0, .int .i64 y.f1, .slice A3 y.f2.length c3]] rfl ?_); (with_reducible refine Calls.mono (HF.out x Hmx.out y Hmy.out A2 c2 A3 c3 _ ?s1 Hq1.out ?s2 Hr1.out) ?_); (case s1 => exact Kd.C_below Hq2.out HS.out.B); (case s2 => exact Kd.C_below Hr2.out HS.out.B); rintro e_ w9 ⟨rfl, hb2⟩; rw [HV.out]; have HB2 := Lib.hid (below_step (below_step HB.out HS.out.B) hb2); clear hb2))
      go_ret
      rw [E.out]
      exact ⟨rfl, HB2.out⟩
    | true =>
      have HV := Lib.hid hv
      clear hv
      go_wp2_with (first | ((with_reducible refine gate_dst (N := 8) rfl ?_); refine box_event ?hg (N := 8) ?hd (cs := #[.int .i64 0, .int .i64 0, .slice none 0 0]) (t := 27) ?hr ?_; (case hd => rfl); (case hg => rfl); (case hr => first | (go_simp; done) | (go_simp; rfl)); intro ka hE_ w1 hbox hb; have HN := Lib.hid (show Sx wr [(ka, #[.int .i64 0, .int .i64 0, .slice none 0 0], 27)] [] w1 from HS.out.box hE_ hbox hb); clear HS hE_ hbox hb; have HS := Lib.hid HN.out; clear HN) | ((with_reducible refine gate_store (t := 27) (p := 8) (v := .tmp 21) ?hgs ?_); (case hgs => rfl); refine wpList_store_row rfl rfl 27 8 (.tmp 21) rfl ka rfl #[.int .i64 x.f0, .int .i64 x.f1, .slice A2 x.f2.length c2] #[.int .i64 0, .int .i64 0, .slice none 0 0] 27 (HS.out.get 0 rfl) (by rfl) (by kernel_rfl) rfl (by rfl) (fun W_ => Sx wr [(ka, #[.int .i64 x.f0, .int .i64 x.f1, .slice A2 x.f2.length c2], 27)] [] W_) (HS.out.row 0 rfl #[.int .i64 x.f0, .int .i64 x.f1, .slice A2 x.f2.length c2]) ?_; rintro w2 he_; clear HS; have HS := Lib.hid he_; clear he_; clear x0 x1 x2; have y0 := pw_cell_below HS.out.B Y0.out; have y1 := pw_cell_below HS.out.B Y1.out; have y2 := pw_cell_below HS.out.B Y2.out) | ((with_reducible refine gate_dst (N := 9) rfl ?_); refine box_event ?hg (N := 9) ?hd (cs := #[.int .i64 0, .int .i64 0, .slice none 0 0]) (t := 27) ?hr ?_; (case hd => rfl); (case hg => rfl); (case hr => first | (go_simp; done) | (go_simp; rfl)); intro kb hE_ w3 hbox hb; have HN := Lib.hid (show Sx wr [(kb, #[.int .i64 0, .int .i64 0, .slice none 0 0], 27), (ka, #[.int .i64 x.f0, .int .i64 x.f1, .slice A2 x.f2.length c2], 27)] [] w3 from HS.out.box hE_ hbox hb); clear HS hE_ hbox hb; have HS := Lib.hid HN.out; clear HN) | ((with_reducible refine gate_store (t := 27) (p := 9) (v := .tmp 25) ?hgs ?_); (case hgs => rfl); refine wpList_store_row rfl rfl 27 9 (.tmp 25) rfl kb rfl #[.int .i64 y.f0, .int .i64 y.f1, .slice A3 y.f2.length c3] #[.int .i64 0, .int .i64 0, .slice none 0 0] 27 (HS.out.get 0 rfl) (by rfl) (by kernel_rfl) rfl (by rfl) (fun W_ => Sx wr [(kb, #[.int .i64 y.f0, .int .i64 y.f1, .slice A3 y.f2.length c3], 27), (ka, #[.int .i64 x.f0, .int .i64 x.f1, .slice A2 x.f2.length c2], 27)] [] W_) (HS.out.row 0 rfl #[.int .i64 y.f0, .int .i64 y.f1, .slice A3 y.f2.length c3]) ?_; rintro w4 he_; clear HS; have HS := Lib.hid he_; clear he_; clear y0 y1 y2) | ((with_reducible refine gate_dst (N := 27) rfl ?_); refine wpList_load_row rfl 27 (.tmp 8) rfl ka rfl 27 #[.int .i64 x.f0, .int .i64 x.f1, .slice A2 x.f2.length c2] (0, 0) _ (HS.out.get 1 rfl) Try.underlying27 rfl (by kernel_rfl) ?_) | ((with_reducible refine gate_dst (N := 28) rfl ?_); refine wpList_load_row rfl 27 (.tmp 9) rfl kb rfl 27 #[.int .i64 y.f0, .int .i64 y.f1, .slice A3 y.f2.length c3] (0, 0) _ (HS.out.get 0 rfl) Try.underlying27 rfl (by kernel_rfl) ?_) | ((with_reducible refine at_args_ #[.agg #[.int .i64 x.f0, .int .i64 x.f1, .slice A2 x.f2.length c2], .agg #[.int .i64 y.f0, .int .i64 y.f1, .slice A3 y.f2.length c3]] rfl ?_); (with_reducible refine Calls.mono (HF.out x Hmx.out y Hmy.out A2 c2 A3 c3 _ ?s1 Hq1.out ?s2 Hr1.out) ?_); (case s1 => exact Kd.C_below Hq2.out HS.out.B); (case s2 => exact Kd.C_below Hr2.out HS.out.B); rintro e_ w9 ⟨rfl, hb2⟩; rw [HV.out]; have HB2 := Lib.hid (below_step (below_step HB.out HS.out.B) hb2); clear hb2))
      go_roundw
      case rel => exact ⟨k + 1, by omega, by go_num, ⟨fun j hj => by
              rcases Nat.lt_or_ge j k with h1 | h1
              · exact HA.out j h1
              · obtain rfl : j = k := by omega
                rw [HXY.out.1, HXY.out.2]; exact HV.out⟩, ⟨HB2.out⟩⟩
      case measure => simp [intOf]; omega
/-! ### lane_Same: function 22 -/
def sameB (k : Nat) (x y : S27) : Bool := (lane_Same_1.f k x.f0 x.f1 x.f2 y.f0 y.f1 y.f2).getD false
def lane_Same.f (k : Nat) (l0_0 : List S27) (a0_1 : Int) (l1_0 : List S27) (a1_1 : Int) : Option Bool :=
  if a0_1 = a1_1 then (if ∀ x ∈ l0_0, ∀ y ∈ l1_0, lane_Same_1.f k x.f0 x.f1 x.f2 y.f0 y.f1 y.f2 = some (sameB k x y) then some (eqP (sameB k) l0_0 l1_0) else none) else some false
theorem eqP_congr {α : Type} {p q : α → α → Bool} : ∀ {l m : List α}, (∀ x ∈ l, ∀ y ∈ m, p x y = q x y) → (List.zipWith p l m).all id = (List.zipWith q l m).all id
  | [], _, _ => rfl
  | _ :: _, [], _ => rfl
  | x :: l, y :: m, h => by
    rw [List.zipWith_cons_cons, List.zipWith_cons_cons, List.all_cons, List.all_cons, eqP_congr (fun a ha b hb => h a (List.mem_cons_of_mem _ ha) b (List.mem_cons_of_mem _ hb)), h x List.mem_cons_self y List.mem_cons_self]
theorem lane_Same.mono : ∀ a0 a1 a2 a3 k, LeO (lane_Same.f k a0 a1 a2 a3) (lane_Same.f (k + 1) a0 a1 a2 a3) := by
  intro a0 a1 a2 a3 k r h
  unfold lane_Same.f at h ⊢
  by_cases c : a1 = a3
  · rw [if_pos c] at h ⊢
    by_cases d : ∀ x ∈ a0, ∀ y ∈ a2, lane_Same_1.f k x.f0 x.f1 x.f2 y.f0 y.f1 y.f2 = some (sameB k x y)
    · rw [if_pos d] at h
      have e : ∀ x ∈ a0, ∀ y ∈ a2, lane_Same_1.f (k + 1) x.f0 x.f1 x.f2 y.f0 y.f1 y.f2 = some (sameB k x y) := fun x hx y hy => lane_Same_1.mono _ _ _ _ _ _ k _ (d x hx y hy)
      have g : ∀ x ∈ a0, ∀ y ∈ a2, sameB k x y = sameB (k + 1) x y := fun x hx y hy => by
        have := e x hx y hy
        unfold sameB at this ⊢
        rw [this]; rfl
      rw [if_pos (fun x hx y hy => by rw [← g x hx y hy]; exact e x hx y hy), ← h]
      unfold eqP
      rw [eqP_congr g]
    · rw [if_neg d] at h; cases h
  · rw [if_neg c] at h ⊢; exact h
set_option maxHeartbeats 4000000 in
theorem lane_Same.calls (k : Nat) (A0_0 : Option Addr) (c0_0 : Nat) (l0_0 : List (S27)) (a0_1 : Int) (A1_0 : Option Addr) (c1_0 : Nat) (l1_0 : List (S27)) (a1_1 : Int) (r : Bool) (w : World) (hr0_0 : Kd.C k27 w A0_0 l0_0.length l0_0) (hc0_0 : l0_0.length ≤ c0_0) (hr1_0 : Kd.C k27 w A1_0 l1_0.length l1_0) (hc1_0 : l1_0.length ≤ c1_0) (h : lane_Same.f k l0_0 a0_1 l1_0 a1_1 = some r) :
    Calls Try.prog 22 #[.agg #[.slice A0_0 l0_0.length c0_0, .int .i64 a0_1], .agg #[.slice A1_0 l1_0.length c1_0, .int .i64 a1_1]] w fun e w' => e = .returned (.bool r) ∧ Below w.heap.size w w' := by
  unfold lane_Same.f at h
  have HR0 := Lib.hid hr0_0
  have HR1 := Lib.hid hr1_0
  have HS := Lib.hid (Sx.start w)
  clear hr0_0 hr1_0
  by_cases ca : a0_1 = a1_1
  case neg =>
    rw [if_neg ca] at h
    obtain rfl := Option.some.inj h
    have cab : (a0_1 == a1_1) = false := by simp [ca]
    clear ca h
    go_enter Try.func22, Try.ntmps22
    go_wp2_with (first | ((with_reducible refine gate_dst (N := 2) rfl ?_); refine box_event ?hg (N := 2) ?hd (cs := #[.slice A0_0 l0_0.length c0_0, .int .i64 a0_1]) (t := 24) ?hr ?_; (case hd => rfl); (case hg => rfl); (case hr => first | (go_simp; done) | (go_simp; rfl)); intro ka hE_ w1 hbox hb; have HN := Lib.hid (show Sx w [(ka, #[.slice A0_0 l0_0.length c0_0, .int .i64 a0_1], 24)] [] w1 from HS.out.box hE_ hbox hb); clear HS hE_ hbox hb; have HS := Lib.hid HN.out; clear HN) | ((with_reducible refine gate_dst (N := 3) rfl ?_); refine box_event ?hg (N := 3) ?hd (cs := #[.slice A1_0 l1_0.length c1_0, .int .i64 a1_1]) (t := 24) ?hr ?_; (case hd => rfl); (case hg => rfl); (case hr => first | (go_simp; done) | (go_simp; rfl)); intro kb hE_ w2 hbox hb; have HN := Lib.hid (show Sx w [(kb, #[.slice A1_0 l1_0.length c1_0, .int .i64 a1_1], 24), (ka, #[.slice A0_0 l0_0.length c0_0, .int .i64 a0_1], 24)] [] w2 from HS.out.box hE_ hbox hb); clear HS hE_ hbox hb; have HS := Lib.hid HN.out; clear HN; have f00 : w2.cell? ⟨ka, 0, none⟩ = some (.slice A0_0 l0_0.length c0_0) := (blk_cell (HS.out.get 1 rfl) 0).trans rfl; have f01 : w2.cell? ⟨ka, 1, none⟩ = some (.int .i64 a0_1) := (blk_cell (HS.out.get 1 rfl) 1).trans rfl; have f10 : w2.cell? ⟨kb, 0, none⟩ = some (.slice A1_0 l1_0.length c1_0) := (blk_cell (HS.out.get 0 rfl) 0).trans rfl; have f11 : w2.cell? ⟨kb, 1, none⟩ = some (.int .i64 a1_1) := (blk_cell (HS.out.get 0 rfl) 1).trans rfl))
    go_ret
    exact ⟨rfl, HS.out.B⟩
  rw [if_pos ca] at h
  by_cases cd : ∀ x ∈ l0_0, ∀ y ∈ l1_0, lane_Same_1.f k x.f0 x.f1 x.f2 y.f0 y.f1 y.f2 = some (sameB k x y)
  case neg => rw [if_neg cd] at h; cases h
  rw [if_pos cd] at h
  obtain rfl := Option.some.inj h
  have cab : (a0_1 == a1_1) = true := by simp [ca]
  have HD := Lib.hid cd
  clear ca h cd
  generalize hq : eqP (sameB k) l0_0 l1_0 = q at *
  have HQ := Lib.hid hq
  clear hq
  go_enter Try.func22, Try.ntmps22
  go_wp2_with (first | ((with_reducible refine gate_dst (N := 2) rfl ?_); refine box_event ?hg (N := 2) ?hd (cs := #[.slice A0_0 l0_0.length c0_0, .int .i64 a0_1]) (t := 24) ?hr ?_; (case hd => rfl); (case hg => rfl); (case hr => first | (go_simp; done) | (go_simp; rfl)); intro ka hE_ w1 hbox hb; have HN := Lib.hid (show Sx w [(ka, #[.slice A0_0 l0_0.length c0_0, .int .i64 a0_1], 24)] [] w1 from HS.out.box hE_ hbox hb); clear HS hE_ hbox hb; have HS := Lib.hid HN.out; clear HN) | ((with_reducible refine gate_dst (N := 3) rfl ?_); refine box_event ?hg (N := 3) ?hd (cs := #[.slice A1_0 l1_0.length c1_0, .int .i64 a1_1]) (t := 24) ?hr ?_; (case hd => rfl); (case hg => rfl); (case hr => first | (go_simp; done) | (go_simp; rfl)); intro kb hE_ w2 hbox hb; have HN := Lib.hid (show Sx w [(kb, #[.slice A1_0 l1_0.length c1_0, .int .i64 a1_1], 24), (ka, #[.slice A0_0 l0_0.length c0_0, .int .i64 a0_1], 24)] [] w2 from HS.out.box hE_ hbox hb); clear HS hE_ hbox hb; have HS := Lib.hid HN.out; clear HN; have f00 : w2.cell? ⟨ka, 0, none⟩ = some (.slice A0_0 l0_0.length c0_0) := (blk_cell (HS.out.get 1 rfl) 0).trans rfl; have f01 : w2.cell? ⟨ka, 1, none⟩ = some (.int .i64 a0_1) := (blk_cell (HS.out.get 1 rfl) 1).trans rfl; have f10 : w2.cell? ⟨kb, 0, none⟩ = some (.slice A1_0 l1_0.length c1_0) := (blk_cell (HS.out.get 0 rfl) 0).trans rfl; have f11 : w2.cell? ⟨kb, 1, none⟩ = some (.int .i64 a1_1) := (blk_cell (HS.out.get 0 rfl) 1).trans rfl) | (go_at_call 35; refine Calls.mono (equalJobs_calls (sameB k) 36 A0_0 c0_0 l0_0 A1_0 c1_0 l1_0 _ (Kd.C_below HR0.out HS.out.B) (Kd.C_below HR1.out HS.out.B) enters_same (fun x hx y hy A c A' c' W h1 h2 h3 h4 => lane_Same_1.calls k x.f0 x.f1 A c x.f2 y.f0 y.f1 A' c' y.f2 _ W h1 h2 h3 h4 (HD.out x hx y hy))) ?_; rw [HQ.out]; rintro e_ w5 ⟨rfl, hb2⟩))
  go_ret
  exact ⟨rfl, below_step HS.out.B hb2⟩
/-! ### trefoilref18_Few: function 9 -/
mutual
def trefoilref18_Few.l0 : Nat → Int → List (S27) → Int → Option (Bool)
  | 0, _, _, _ => none
  | k + 1, x3, x196000, x196001 => if x3 < (x196000.length : Int) then (trefoilref18_Few.j1 k x3 (decide (x3 < 13)) x196000 x196001) else (trefoilref18_Few.j1 k x3 false x196000 x196001)
def trefoilref18_Few.j1 : Nat → Int → Bool → List (S27) → Int → Option (Bool)
  | 0, _, _, _, _ => none
  | k + 1, x3, x12, x196000, x196001 => if x12 = true then (if 0 ≤ x3 then (if x3 < (x196000.length : Int) then (if (((rd_T27 x196000 x3).f2).length : Int) > 70 then (some false) else (trefoilref18_Few.l0 k (wrap64 (x3 + 1)) x196000 x196001)) else (none)) else (none)) else (some (decide ((x196000.length : Int) ≤ 12)))
end
def trefoilref18_Few.f (k : Nat) (l0_0 : List (S27)) (a0_1 : Int) : Option (Bool) := trefoilref18_Few.l0 k 0 l0_0 a0_1
theorem trefoilref18_Few.mono_l : ∀ k, (∀ y0 y1 y2, LeO (trefoilref18_Few.l0 k y0 y1 y2) (trefoilref18_Few.l0 (k + 1) y0 y1 y2)) ∧ (∀ y0 y1 y2 y3, LeO (trefoilref18_Few.j1 k y0 y1 y2 y3) (trefoilref18_Few.j1 (k + 1) y0 y1 y2 y3))
  | 0 => ⟨fun _ _ _ r h => by simp [trefoilref18_Few.l0] at h, fun _ _ _ _ r h => by simp [trefoilref18_Few.j1] at h⟩
  | k + 1 => by
    obtain ⟨ih0, ih1⟩ := trefoilref18_Few.mono_l k
    refine ⟨?_, ?_⟩
    · intro y0 y1 y2
      unfold trefoilref18_Few.l0
      repeat' first
      | (with_reducible exact ih0 _ _ _)
      | (with_reducible exact ih1 _ _ _ _)
      | (with_reducible exact LeO.refl _)
      | (with_reducible exact LeO.none _)
      | (with_reducible refine LeO.ite ?_ ?_)
      | (with_reducible refine LeO.bind ?_ (fun _ => ?_))
      | exact ih0 _ _ _
      | exact ih1 _ _ _ _
      | exact LeO.none _
      | refine LeO.ite ?_ ?_
      | refine LeO.bind ?_ (fun _ => ?_)
    · intro y0 y1 y2 y3
      unfold trefoilref18_Few.j1
      repeat' first
      | (with_reducible exact ih0 _ _ _)
      | (with_reducible exact ih1 _ _ _ _)
      | (with_reducible exact LeO.refl _)
      | (with_reducible exact LeO.none _)
      | (with_reducible refine LeO.ite ?_ ?_)
      | (with_reducible refine LeO.bind ?_ (fun _ => ?_))
      | exact ih0 _ _ _
      | exact ih1 _ _ _ _
      | exact LeO.none _
      | refine LeO.ite ?_ ?_
      | refine LeO.bind ?_ (fun _ => ?_)
theorem trefoilref18_Few.mono : ∀ a0 a1 k, LeO (trefoilref18_Few.f k a0 a1) (trefoilref18_Few.f (k + 1) a0 a1) := by
  intro a0 a1 k
  obtain ⟨ih0, ih1⟩ := trefoilref18_Few.mono_l k
  unfold trefoilref18_Few.f
  repeat' first
      | (with_reducible exact ih0 _ _ _)
      | (with_reducible exact ih1 _ _ _ _)
      | (with_reducible exact LeO.refl _)
      | (with_reducible exact LeO.none _)
      | (with_reducible refine LeO.ite ?_ ?_)
      | (with_reducible refine LeO.bind ?_ (fun _ => ?_))
      | exact ih0 _ _ _
      | exact ih1 _ _ _ _
      | exact LeO.none _
      | refine LeO.ite ?_ ?_
      | refine LeO.bind ?_ (fun _ => ?_)
set_option maxHeartbeats 8000000 in
set_option maxRecDepth 100000 in
theorem trefoilref18_Few.calls (k : Nat) (A0_0 : Option Addr) (c0_0 : Nat) (l0_0 : List (S27)) (a0_1 : Int) (r : Bool) (w : World) (hr0_0 : Kd.C k27 w A0_0 l0_0.length l0_0) (hc0_0 : l0_0.length ≤ c0_0) (h : trefoilref18_Few.f k l0_0 a0_1 = some r) :
    Calls Try.prog 9 #[.agg #[.slice A0_0 l0_0.length c0_0, .int .i64 a0_1]] w fun e w' => e = .returned (.bool r) ∧ Below w.heap.size w w' := by
  have hu24 := Try.underlying24
  have HR0_0 := Aside0.mk hr0_0
  have HC0_0 := Aside0.mk hc0_0
  clear hr0_0 hc0_0
  have HB := Aside0.mk (Below.refl w.heap.size w)
  have H : (trefoilref18_Few.l0 k 0 l0_0 a0_1) = some r := h
  clear h
  have H' := Aside0.mk H
  clear H
  go_enter Try.func9, Try.ntmps9
  go_wp2_with (first | ((with_reducible refine gate_dst (N := 1) rfl ?_); refine box_event ?hg (N := 1) ?hd (cs := #[.slice A0_0 l0_0.length c0_0, .int .i64 a0_1]) (t := 24) ?hr ?_; (case hd => rfl); (case hg => rfl); (case hr => first | (go_simp; done) | (go_simp; rfl)); intro gb195 hg w2 hbox hb; have n0_ := Aside0.mk (below_step (by repeat (first | (with_reducible first | exact HB.out | apply below_alloc | apply pw_below_drewN | apply below_drew1) | exact HB.out)) hb); have n1_ := Aside0.mk (hbox); have n2_ := Aside0.mk ((by rw [hg]; exact (below_size (by repeat (first | (with_reducible first | exact HB.out | apply below_alloc | apply pw_below_drewN | apply below_drew1) | exact HB.out))) : w.heap.size ≤ gb195)); have n3_ := Aside0.mk ((by rw [hg]; exact (below_size (by repeat (first | (with_reducible first | exact HB.out | apply below_alloc | apply pw_below_drewN | apply below_drew1) | exact HB.out))) : w.heap.size ≤ gb195)); clear HB; have HB := n0_; have BK195 := n1_; have GW195 := n2_; have GE195 := n3_; clear n0_ n1_ n2_ n3_; clear hb hbox hg))
  go_loopg [3] k (fun kq v3 w' => ∃ (x3_1 : Int), v3 = .int .i64 x3_1 ∧ Aside0 (trefoilref18_Few.l0 kq x3_1 l0_0 a0_1 = some r) ∧ Aside0 (kq ≤ k) ∧ Aside0 (w'.heap[gb195]? = some (.cells #[(.slice A0_0 l0_0.length c0_0), .int .i64 a0_1] 24 (0, 0))) ∧ Aside0 (Below w.heap.size w w'))
  case atStart => exact ⟨(0), (by first | rfl | (simp; done) | (simp [*]; done)), H', ⟨Nat.le_refl _⟩, ⟨by (with_reducible repeat (first | refine blk_drewN ?_ _ | refine blk_drew ?_ | refine blk_alloc ?_ _)); exact BK195.out⟩, ⟨by repeat (first | (with_reducible first | exact HB.out | apply below_alloc | apply pw_below_drewN | apply below_drew1 | refine below_set ?_ GE195.out) | exact HB.out)⟩⟩
  case round =>
    clear H'
    try clear p2
    obtain ⟨x3_1, rfl, HA, HK1, BK195, HB⟩ := hrel
    cases gk with
    | zero => exact absurd HA.out (by simp [trefoilref18_Few.l0])
    | succ k1 =>
      have H := HA.out
      clear HA
      simp only [trefoilref18_Few.l0] at H
      have HC3 := Aside0.mk H
      clear H
      go_upto_region 2 with (fail)
      go_cut [12] (fun v12 wc => ∃ (kq : Nat) (x12_2 : Bool), v12 = .bool x12_2 ∧ Aside0 (trefoilref18_Few.j1 kq x3_1 x12_2 l0_0 a0_1 = some r) ∧ Aside0 (kq ≤ k1) ∧ Aside0 (wc.heap[gb195]? = some (.cells #[(.slice A0_0 l0_0.length c0_0), .int .i64 a0_1] 24 (0, 0))) ∧ Aside0 (Below w.heap.size w wc))
      case first =>
        have H := HC3.out
        clear HC3
        by_cases c4 : x3_1 < (l0_0.length : Int)
        · rw [if_pos c4] at H
          have c4b0 : decide (x3_1 < (l0_0.length : Int)) = true := decide_eq_true c4
          clear c4
          (first | rw [c4b0] | (simp only [i64_w, i32_w]; rw [c4b0]) | skip)
          have H' := Aside0.mk H
          clear H
          have hcz5_0 : wr.cell? ⟨gb195, 0, none⟩ = some (.slice A0_0 l0_0.length c0_0) := (blk_cell BK195.out 0).trans rfl
          have hcz5_1 : wr.cell? ⟨gb195, 1, none⟩ = some (.int .i64 a0_1) := (blk_cell BK195.out 1).trans rfl
          have hfz5_0 := blk_frozen BK195.out 0
          have hfz5_1 := blk_frozen BK195.out 1
          go_wp2
          go_meet
          case rel => exact ⟨_, (decide (x3_1 < 13)), (by first | rfl | (simp; done) | (simp [*]; done)), H', ⟨by have := HK1.out; first | omega | exact Nat.le_refl _⟩, ⟨by (with_reducible repeat (first | refine blk_drewN ?_ _ | refine blk_drew ?_ | refine blk_alloc ?_ _)); exact BK195.out⟩, ⟨by repeat (first | (with_reducible first | exact HB.out | apply below_alloc | apply pw_below_drewN | apply below_drew1 | refine below_set ?_ GE195.out) | exact HB.out)⟩⟩
        · rw [if_neg c4] at H
          have c4b0 : decide (x3_1 < (l0_0.length : Int)) = false := decide_eq_false c4
          clear c4
          (first | rw [c4b0] | (simp only [i64_w, i32_w]; rw [c4b0]) | skip)
          have H' := Aside0.mk H
          clear H
          have hcz6_0 : wr.cell? ⟨gb195, 0, none⟩ = some (.slice A0_0 l0_0.length c0_0) := (blk_cell BK195.out 0).trans rfl
          have hcz6_1 : wr.cell? ⟨gb195, 1, none⟩ = some (.int .i64 a0_1) := (blk_cell BK195.out 1).trans rfl
          have hfz6_0 := blk_frozen BK195.out 0
          have hfz6_1 := blk_frozen BK195.out 1
          go_wp2
          go_meet
          case rel => exact ⟨_, (false), (by first | rfl | (simp; done) | (simp [*]; done)), H', ⟨by have := HK1.out; first | omega | exact Nat.le_refl _⟩, ⟨by (with_reducible repeat (first | refine blk_drewN ?_ _ | refine blk_drew ?_ | refine blk_alloc ?_ _)); exact BK195.out⟩, ⟨by repeat (first | (with_reducible first | exact HB.out | apply below_alloc | apply pw_below_drewN | apply below_drew1 | refine below_set ?_ GE195.out) | exact HB.out)⟩⟩
      case rest =>
        clear HC3
        try clear p2
        try clear c4
        try clear c4b0
        try clear hcz5_0
        try clear hcz5_1
        try clear hcz6_0
        try clear hcz6_1
        try clear hfz5_0
        try clear hfz5_1
        try clear hfz6_0
        try clear hfz6_1
        try clear p2
        obtain ⟨kq, x12_2, rfl, HA, HJ2, BK195, HB⟩ := hcut
        cases kq with
        | zero => exact absurd HA.out (by simp [trefoilref18_Few.j1])
        | succ kj2 =>
          have H := HA.out
          clear HA
          simp only [trefoilref18_Few.j1] at H
          by_cases c7 : x12_2 = true
          · subst c7
            have H1 : (if 0 ≤ x3_1 then (if x3_1 < (l0_0.length : Int) then (if (((rd_T27 l0_0 x3_1).f2).length : Int) > 70 then (some false) else (trefoilref18_Few.l0 kj2 (wrap64 (x3_1 + 1)) l0_0 a0_1)) else (none)) else (none)) = some r := by rw [if_pos rfl] at H; exact H
            clear H
            have H := H1
            clear H1
            by_cases c8 : 0 ≤ x3_1
            · rw [if_pos c8] at H
              have c8b0 : decide (0 ≤ x3_1) = true := decide_eq_true c8
              clear c8
              by_cases c9 : x3_1 < (l0_0.length : Int)
              · rw [if_pos c9] at H
                have c9b0 : decide (x3_1 < (l0_0.length : Int)) = true := decide_eq_true c9
                clear c9
                by_cases c10 : (((rd_T27 l0_0 x3_1).f2).length : Int) > 70
                · rw [if_pos c10] at H
                  have c10b0 : decide (70 < (((rd_T27 l0_0 x3_1).f2).length : Int)) = true := decide_eq_true c10
                  have c10b1 : decide (70 < ((rd_T27 l0_0 x3_1).f2).length) = true := decide_eq_true (by omega)
                  clear c10
                  obtain rfl := Option.some.inj H
                  have hcz11_0 : wc.cell? ⟨gb195, 0, none⟩ = some (.slice A0_0 l0_0.length c0_0) := (blk_cell BK195.out 0).trans rfl
                  have hcz11_1 : wc.cell? ⟨gb195, 1, none⟩ = some (.int .i64 a0_1) := (blk_cell BK195.out 1).trans rfl
                  have hfz11_0 := blk_frozen BK195.out 0
                  have hfz11_1 := blk_frozen BK195.out 1
                  have p196 : 0 ≤ (x3_1 : Int) := of_decide_eq_true (by first | (with_reducible assumption) | assumption)
                  have q196 : x3_1 < (l0_0.length : Int) := of_decide_eq_true (by first | (with_reducible assumption) | assumption)
                  obtain ⟨ad196, A196_2, c196_2, e196, hx196_0, hx196_1, hx196_2, hl196_2, hi196_2⟩ := at_T27 HR0_0.out x3_1 p196 q196
                  cases e196
                  replace hx196_0 := (HB.out.cell (World.block_lt_of_cell? w _ hx196_0)).trans hx196_0
                  replace hx196_1 := (HB.out.cell (World.block_lt_of_cell? w _ hx196_1)).trans hx196_1
                  replace hx196_2 := (HB.out.cell (World.block_lt_of_cell? w _ hx196_2)).trans hx196_2
                  have HR196_2 := Aside0.mk hi196_2
                  have HC196_2 := Aside0.mk hl196_2
                  clear hi196_2 hl196_2
                  replace p196 := eq_true p196
                  replace q196 := eq_true q196
                  go_wp2
                  go_ret
                  exact ⟨by first | rfl | (simp [errW_none, errW_some] <;> rfl) | (simp [*, errW_none, errW_some] <;> rfl), by repeat (first | (with_reducible first | exact HB.out | apply below_alloc | apply pw_below_drewN | apply below_drew1 | refine below_set ?_ GE195.out) | exact HB.out)⟩
                · rw [if_neg c10] at H
                  have c10b0 : decide (70 < (((rd_T27 l0_0 x3_1).f2).length : Int)) = false := decide_eq_false c10
                  have c10b1 : decide (70 < ((rd_T27 l0_0 x3_1).f2).length) = false := decide_eq_false (by omega)
                  clear c10
                  have H' := Aside0.mk H
                  clear H
                  have hcz12_0 : wc.cell? ⟨gb195, 0, none⟩ = some (.slice A0_0 l0_0.length c0_0) := (blk_cell BK195.out 0).trans rfl
                  have hcz12_1 : wc.cell? ⟨gb195, 1, none⟩ = some (.int .i64 a0_1) := (blk_cell BK195.out 1).trans rfl
                  have hfz12_0 := blk_frozen BK195.out 0
                  have hfz12_1 := blk_frozen BK195.out 1
                  have p196 : 0 ≤ (x3_1 : Int) := of_decide_eq_true (by first | (with_reducible assumption) | assumption)
                  have q196 : x3_1 < (l0_0.length : Int) := of_decide_eq_true (by first | (with_reducible assumption) | assumption)
                  obtain ⟨ad196, A196_2, c196_2, e196, hx196_0, hx196_1, hx196_2, hl196_2, hi196_2⟩ := at_T27 HR0_0.out x3_1 p196 q196
                  cases e196
                  replace hx196_0 := (HB.out.cell (World.block_lt_of_cell? w _ hx196_0)).trans hx196_0
                  replace hx196_1 := (HB.out.cell (World.block_lt_of_cell? w _ hx196_1)).trans hx196_1
                  replace hx196_2 := (HB.out.cell (World.block_lt_of_cell? w _ hx196_2)).trans hx196_2
                  have HR196_2 := Aside0.mk hi196_2
                  have HC196_2 := Aside0.mk hl196_2
                  clear hi196_2 hl196_2
                  replace p196 := eq_true p196
                  replace q196 := eq_true q196
                  go_wp2
                  go_roundg kj2
                  case measure => have := HK1.out; have := HJ2.out; omega
                  case rel => exact ⟨(wrap64 (x3_1 + 1)), (by first | rfl | (simp; done) | (simp [*]; done)), H', ⟨by have := HK1.out; have := HJ2.out; omega⟩, ⟨by (with_reducible repeat (first | refine blk_drewN ?_ _ | refine blk_drew ?_ | refine blk_alloc ?_ _)); exact BK195.out⟩, ⟨by repeat (first | (with_reducible first | exact HB.out | apply below_alloc | apply pw_below_drewN | apply below_drew1 | refine below_set ?_ GE195.out) | exact HB.out)⟩⟩
              · rw [if_neg c9] at H
                exact absurd H (by simp)
            · rw [if_neg c8] at H
              exact absurd H (by simp)
          · replace c7 := Bool.eq_false_iff.mpr c7
            subst c7
            have H1 : (some (decide ((l0_0.length : Int) ≤ 12))) = some r := by rw [if_neg (show ¬ (false = true) by decide)] at H; exact H
            clear H
            have H := H1
            clear H1
            obtain rfl := Option.some.inj H
            have hcz13_0 : wc.cell? ⟨gb195, 0, none⟩ = some (.slice A0_0 l0_0.length c0_0) := (blk_cell BK195.out 0).trans rfl
            have hcz13_1 : wc.cell? ⟨gb195, 1, none⟩ = some (.int .i64 a0_1) := (blk_cell BK195.out 1).trans rfl
            have hfz13_0 := blk_frozen BK195.out 0
            have hfz13_1 := blk_frozen BK195.out 1
            go_wp2
            go_ret
            exact ⟨by first | rfl | (simp [errW_none, errW_some] <;> rfl) | (simp [*, errW_none, errW_some] <;> rfl), by repeat (first | (with_reducible first | exact HB.out | apply below_alloc | apply pw_below_drewN | apply below_drew1 | refine below_set ?_ GE195.out) | exact HB.out)⟩
end Go.Proofs.Yteodhffgnkdcfaa.Q
