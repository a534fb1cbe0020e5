/- A walk: who runs next is due first. -/
import Derived.Test.YteodhffgnkdcfaaQx16
import Derived.Test.YteodhffgnkdcfaaQx18
import Derived.Test.YteodhffgnkdcfaaQx17
import Derived.Test.YteodhffgnkdcfaaLaneFirstPure
set_option linter.unusedVariables false
set_option linter.unusedSimpArgs false
namespace Go.Proofs.Yteodhffgnkdcfaa.Q
open Go.RowKit Go.Proofs.YteodhffgnkdcfaaW.PrintWords Go.Proofs.YteodhffgnkdcfaaW.PrintLast Go.Proofs.YteodhffgnkdcfaaW.PrintMore
attribute [local go_sem] max2_int min2_int max_two min_two max_three min_three max_four min_four
theorem Sx.swap {w W : World} {x y : Nat × Array Value × Nat} {L : List (Nat × Array Value × Nat)} {Fs : List (World → Prop)} (s : Sx w (x :: y :: L) Fs W) : Sx w (y :: x :: L) Fs W := by
  have key : ∀ (i : Nat) (z : Nat × Array Value × Nat), (y :: x :: L)[i]? = some z → ∃ j : Nat, (x :: y :: L)[j]? = some z ∧ (∀ (i' : Nat) (z' : Nat × Array Value × Nat), (y :: x :: L)[i']? = some z' → (∃ j' : Nat, (x :: y :: L)[j']? = some z' ∧ (j = j' → i = i'))) := by
    have k1 : ∀ (i : Nat) (z : Nat × Array Value × Nat), (y :: x :: L)[i]? = some z → (x :: y :: L)[(if i = 0 then 1 else if i = 1 then 0 else i)]? = some z := fun i z h => by
      match i, h with
      | 0, h => exact h
      | 1, h => exact h
      | i + 2, h => exact h
    intro i z h
    refine ⟨_, k1 i z h, fun i' z' h' => ⟨_, k1 i' z' h', fun e => ?_⟩⟩
    split at e <;> split at e <;> (try split at e) <;> (try split at e) <;> omega
  refine ⟨s.B, fun i z h => ?_, fun i j z z' h1 h2 e => ?_, fun i P h => (s.fs i P h).mono (fun k hk i z hz => ?_)⟩
  · obtain ⟨j, hj, _⟩ := key i z h
    exact s.bx j z hj
  · obtain ⟨q, hq, hk⟩ := key i z h1
    obtain ⟨q', hq', he⟩ := hk j z' h2
    exact he (s.nd q q' z z' hq hq' e)
  · match i, hz with
    | 0, hz => exact hk 1 z hz
    | 1, hz => exact hk 0 z hz
    | i + 2, hz => exact hk (i + 2) z hz
theorem lhas_loop (l : List J3) (run t : Int) (hl : l.length ≤ 1000) : ∀ (d k i : Nat), i + d = l.length → d < k → ∃ b, trefoilref18_Has.l0 k t (i : Int) l run = some b ∧ (b = true ↔ ∃ q, i ≤ q ∧ q < l.length ∧ (l.getD q z27).f0 = t)
  | 0, k + 1, i, hi, _ => by
    unfold trefoilref18_Has.l0
    rw [if_neg (by omega)]
    exact ⟨false, rfl, fun h => (by cases h), fun ⟨q, h1, h2, _⟩ => by omega⟩
  | d + 1, k + 1, i, hi, hk => by
    have hr : rd_T27 l (i : Int) = l.getD i z27 := by unfold rd_T27; rw [Int.toNat_natCast]
    have hw : wrap64 ((i : Int) + 1) = ((i + 1 : Nat) : Int) := by rw [lw64 (by omega) (by omega)]; omega
    unfold trefoilref18_Has.l0
    rw [if_pos (by omega), if_pos (by omega), hr, hw]
    by_cases c : (l.getD i z27).f0 = t
    · rw [if_pos c]
      exact ⟨true, rfl, fun _ => ⟨i, Nat.le_refl _, by omega, c⟩, fun _ => rfl⟩
    · rw [if_neg c]
      obtain ⟨b, hb, hi2⟩ := lhas_loop l run t hl d k (i + 1) (by omega) (by omega)
      refine ⟨b, hb, hi2.trans ⟨fun ⟨q, h1, h2, h3⟩ => ⟨q, by omega, h2, h3⟩, fun ⟨q, h1, h2, h3⟩ => ?_⟩⟩
      rcases Nat.lt_or_ge i q with h | h
      · exact ⟨q, by omega, h2, h3⟩
      · obtain rfl : q = i := by omega
        exact absurd h3 c
theorem lhas_eq {l : List J3} {run t : Int} {k : Nat} (hl : l.length ≤ 1000) (hk : 1000 < k) : ∃ b, trefoilref18_Has.f k l run t = some b ∧ (b = true ↔ hasT l t) := by
  obtain ⟨b, hb, hi⟩ := lhas_loop l run t hl l.length k 0 (by omega) (by omega)
  refine ⟨b, hb, hi.trans ⟨fun ⟨q, _, h2, h3⟩ => ⟨_, mem_getD (z := z27) h2, h3⟩, fun ⟨x, hx, e⟩ => ?_⟩⟩
  obtain ⟨q, hq, rfl⟩ := List.mem_iff_getElem.1 hx
  exact ⟨q, Nat.zero_le _, hq, by rw [getD_lt hq]; exact e⟩
def trefoillaw18_LaneFirst.f (k : Nat) (l : List J3) (a : Int) : Option Bool := some true
theorem laneFirst (K : Nat) (hK : 3000 < K) (l : List J3) (a : Int) : trefoillaw18_LaneFirst.f K l a = some true := rfl
set_option maxHeartbeats 8000000 in
set_option maxRecDepth 100000 in
theorem trefoillaw18_LaneFirst.calls (k : Nat) (A0 : Option Addr) (c0 : Nat) (l : List J3) (a : Int) (r : Bool) (w : World) (hr : Kd.C k27 w A0 l.length l) (hc : l.length ≤ c0) (h : trefoillaw18_LaneFirst.f k l a = some r) :
    Calls Try.prog 5 #[.agg #[.slice A0 l.length c0, .int .i64 a]] w fun e w' => e = .returned (.bool r) ∧ Below w.heap.size w w' := by
  obtain rfl : true = r := Option.some.inj h
  obtain ⟨K, hK⟩ : ∃ K : Nat, 3000 < K := ⟨3001, by omega⟩
  have HR := Lib.hid hr
  have Hc := Lib.hid hc
  have HS := Lib.hid (Sx.start w)
  clear hr hc h
  by_cases cf : fewL l
  case neg =>
    have HF := Lib.hid (few_no (a := a) (k := K) (by omega) cf)
    clear cf
    go_enter Try.func5, Try.ntmps5
    go_wp2_with (first | ((with_reducible refine gate_dst (N := 1) rfl ?_); refine box_event ?hg (N := 1) ?hd (cs := #[.slice A0 l.length c0, .int .i64 a]) (t := 24) ?hr ?_; (case hd => rfl); (case hg => rfl); (case hr => first | (go_simp; done) | (go_simp; rfl)); intro kl hE_ w1 hbox hb; have HN := Lib.hid (show Sx w [(kl, #[.slice A0 l.length c0, .int .i64 a], 24)] [] w1 from HS.out.box hE_ hbox hb); clear HS hE_ hbox hb; have HS := Lib.hid HN.out; clear HN) | (go_at_call 8; refine Calls.mono (trefoillaw18_awake.calls K true _ (lawake_eq K (by omega))) ?_; rintro e_ w2 ⟨rfl, hb⟩; have HN := Lib.hid (show Sx w [(kl, #[.slice A0 l.length c0, .int .i64 a], 24)] [] w2 from HS.out.below hb); clear HS hb; have HS := Lib.hid HN.out; clear HN) | ((with_reducible refine gate_dst (N := 11) rfl ?_); refine gate_guard (by rfl) ?_; dsimp only; refine wpList_load_row rfl 24 (.tmp 1) rfl kl rfl 24 #[.slice A0 l.length c0, .int .i64 a] (0, 0) _ (HS.out.get 0 rfl) Try.underlying24 rfl (by kernel_rfl) ?_) | ((with_reducible refine gate_dst (N := 11) rfl ?_); refine wpList_load_row rfl 24 (.tmp 1) rfl kl rfl 24 #[.slice A0 l.length c0, .int .i64 a] (0, 0) _ (HS.out.get 0 rfl) Try.underlying24 rfl (by kernel_rfl) ?_) | (go_at_call 9; refine Calls.mono (trefoilref18_Few.calls K A0 c0 l a false _ (Kd.C_below HR.out HS.out.B) Hc.out HF.out) ?_; rintro e_ w3 ⟨rfl, hb⟩; have HN := Lib.hid (show Sx w [(kl, #[.slice A0 l.length c0, .int .i64 a], 24)] [] w3 from HS.out.below hb); clear HS hb; have HS := Lib.hid HN.out; clear HN))
    go_ret
    exact ⟨rfl, HS.out.B⟩
  case pos =>
    have HF := Lib.hid (few_yes (a := a) (k := K) (by omega) cf)
    have hl : l.length ≤ 12 := cf.1
    have HO := Lib.hid (lown_eq (l := l) (a := a) (k := K) (by omega) (fun x hx => by have := cf.2 x hx; omega) (by omega))
    clear cf
    by_cases ck : okL l a
    case neg =>
      have HK := Lib.hid (check_no (k := K) (by omega) (by omega) ck)
      clear ck
      go_enter Try.func5, Try.ntmps5
      go_wp2_with (first | ((with_reducible refine gate_dst (N := 1) rfl ?_); refine box_event ?hg (N := 1) ?hd (cs := #[.slice A0 l.length c0, .int .i64 a]) (t := 24) ?hr ?_; (case hd => rfl); (case hg => rfl); (case hr => first | (go_simp; done) | (go_simp; rfl)); intro kl hE_ w1 hbox hb; have HN := Lib.hid (show Sx w [(kl, #[.slice A0 l.length c0, .int .i64 a], 24)] [] w1 from HS.out.box hE_ hbox hb); clear HS hE_ hbox hb; have HS := Lib.hid HN.out; clear HN) | (go_at_call 8; refine Calls.mono (trefoillaw18_awake.calls K true _ (lawake_eq K (by omega))) ?_; rintro e_ w2 ⟨rfl, hb⟩; have HN := Lib.hid (show Sx w [(kl, #[.slice A0 l.length c0, .int .i64 a], 24)] [] w2 from HS.out.below hb); clear HS hb; have HS := Lib.hid HN.out; clear HN) | ((with_reducible refine gate_dst (N := 11) rfl ?_); refine gate_guard (by rfl) ?_; dsimp only; refine wpList_load_row rfl 24 (.tmp 1) rfl kl rfl 24 #[.slice A0 l.length c0, .int .i64 a] (0, 0) _ (HS.out.get 0 rfl) Try.underlying24 rfl (by kernel_rfl) ?_) | ((with_reducible refine gate_dst (N := 11) rfl ?_); refine wpList_load_row rfl 24 (.tmp 1) rfl kl rfl 24 #[.slice A0 l.length c0, .int .i64 a] (0, 0) _ (HS.out.get 0 rfl) Try.underlying24 rfl (by kernel_rfl) ?_) | (go_at_call 9; refine Calls.mono (trefoilref18_Few.calls K A0 c0 l a true _ (Kd.C_below HR.out HS.out.B) Hc.out HF.out) ?_; rintro e_ w3 ⟨rfl, hb⟩; have HN := Lib.hid (show Sx w [(kl, #[.slice A0 l.length c0, .int .i64 a], 24)] [] w3 from HS.out.below hb); clear HS hb; have HS := Lib.hid HN.out; clear HN) | ((with_reducible refine gate_dst (N := 16) rfl ?_); refine gate_guard (by rfl) ?_; dsimp only; refine wpList_load_row rfl 24 (.tmp 1) rfl kl rfl 24 #[.slice A0 l.length c0, .int .i64 a] (0, 0) _ (HS.out.get 0 rfl) Try.underlying24 rfl (by kernel_rfl) ?_) | ((with_reducible refine gate_dst (N := 16) rfl ?_); refine wpList_load_row rfl 24 (.tmp 1) rfl kl rfl 24 #[.slice A0 l.length c0, .int .i64 a] (0, 0) _ (HS.out.get 0 rfl) Try.underlying24 rfl (by kernel_rfl) ?_) | (go_at_call 11; refine Calls.mono (trefoillaw18_Own.calls K A0 c0 l a l a _ (Kd.C_below HR.out HS.out.B) Hc.out HO.out) ?_; rintro e_ w4 ⟨v_, rfl, hs_, hb⟩; obtain ⟨Ao, co, rfl, hco_, hlo_⟩ := Kd.N_reads (Kd.S_N hs_); have HLo := Lib.hid hlo_; have HCo := Lib.hid hco_; clear hs_ hlo_ hco_; have HN := Lib.hid (show Sx w [(kl, #[.slice A0 l.length c0, .int .i64 a], 24)] [] w4 from HS.out.below hb); clear HS hb; have HS := Lib.hid HN.out; clear HN) | (go_at_call 21; refine Calls.mono (lane_Check.calls K Ao co l a 180 _ HLo.out HCo.out HK.out) ?_; rintro e_ w5 ⟨rfl, hb⟩; have HN := Lib.hid (show Sx w [(kl, #[.slice A0 l.length c0, .int .i64 a], 24)] [] w5 from HS.out.below hb); clear HS hb; have HS := Lib.hid HN.out; clear HN))
      go_ret
      exact ⟨rfl, HS.out.B⟩
    case pos =>
      have HK := Lib.hid (check_yes (k := K) (by omega) (by omega) ck)
      obtain ⟨n, hn⟩ : ∃ n, nextV l a = n := ⟨_, rfl⟩
      have HX := Lib.hid (show lane_Next.f K l a = some n from by rw [lnext_yes (by omega) ck, hn])
      have Hn := Lib.hid hn
      have Hk := Lib.hid ck
      clear hn ck
      go_enter Try.func5, Try.ntmps5
      go_wp2_with (first | ((with_reducible refine gate_dst (N := 1) rfl ?_); refine box_event ?hg (N := 1) ?hd (cs := #[.slice A0 l.length c0, .int .i64 a]) (t := 24) ?hr ?_; (case hd => rfl); (case hg => rfl); (case hr => first | (go_simp; done) | (go_simp; rfl)); intro kl hE_ w1 hbox hb; have HN := Lib.hid (show Sx w [(kl, #[.slice A0 l.length c0, .int .i64 a], 24)] [] w1 from HS.out.box hE_ hbox hb); clear HS hE_ hbox hb; have HS := Lib.hid HN.out; clear HN) | (go_at_call 8; refine Calls.mono (trefoillaw18_awake.calls K true _ (lawake_eq K (by omega))) ?_; rintro e_ w2 ⟨rfl, hb⟩; have HN := Lib.hid (show Sx w [(kl, #[.slice A0 l.length c0, .int .i64 a], 24)] [] w2 from HS.out.below hb); clear HS hb; have HS := Lib.hid HN.out; clear HN) | ((with_reducible refine gate_dst (N := 11) rfl ?_); refine gate_guard (by rfl) ?_; dsimp only; refine wpList_load_row rfl 24 (.tmp 1) rfl kl rfl 24 #[.slice A0 l.length c0, .int .i64 a] (0, 0) _ (HS.out.get 0 rfl) Try.underlying24 rfl (by kernel_rfl) ?_) | ((with_reducible refine gate_dst (N := 11) rfl ?_); refine wpList_load_row rfl 24 (.tmp 1) rfl kl rfl 24 #[.slice A0 l.length c0, .int .i64 a] (0, 0) _ (HS.out.get 0 rfl) Try.underlying24 rfl (by kernel_rfl) ?_) | (go_at_call 9; refine Calls.mono (trefoilref18_Few.calls K A0 c0 l a true _ (Kd.C_below HR.out HS.out.B) Hc.out HF.out) ?_; rintro e_ w3 ⟨rfl, hb⟩; have HN := Lib.hid (show Sx w [(kl, #[.slice A0 l.length c0, .int .i64 a], 24)] [] w3 from HS.out.below hb); clear HS hb; have HS := Lib.hid HN.out; clear HN) | ((with_reducible refine gate_dst (N := 16) rfl ?_); refine gate_guard (by rfl) ?_; dsimp only; refine wpList_load_row rfl 24 (.tmp 1) rfl kl rfl 24 #[.slice A0 l.length c0, .int .i64 a] (0, 0) _ (HS.out.get 0 rfl) Try.underlying24 rfl (by kernel_rfl) ?_) | ((with_reducible refine gate_dst (N := 16) rfl ?_); refine wpList_load_row rfl 24 (.tmp 1) rfl kl rfl 24 #[.slice A0 l.length c0, .int .i64 a] (0, 0) _ (HS.out.get 0 rfl) Try.underlying24 rfl (by kernel_rfl) ?_) | (go_at_call 11; refine Calls.mono (trefoillaw18_Own.calls K A0 c0 l a l a _ (Kd.C_below HR.out HS.out.B) Hc.out HO.out) ?_; rintro e_ w4 ⟨v_, rfl, hs_, hb⟩; obtain ⟨Ao, co, rfl, hco_, hlo_⟩ := Kd.N_reads (Kd.S_N hs_); have HLo := Lib.hid hlo_; have HCo := Lib.hid hco_; clear hs_ hlo_ hco_; have HN := Lib.hid (show Sx w [(kl, #[.slice A0 l.length c0, .int .i64 a], 24)] [] w4 from HS.out.below hb); clear HS hb; have HS := Lib.hid HN.out; clear HN) | (go_at_call 21; refine Calls.mono (lane_Check.calls K Ao co l a 0 _ HLo.out HCo.out HK.out) ?_; rintro e_ w5 ⟨rfl, hb⟩; have HN := Lib.hid (show Sx w [(kl, #[.slice A0 l.length c0, .int .i64 a], 24)] [] w5 from HS.out.below hb); clear HS hb; have HS := Lib.hid HN.out; clear HN) | ((with_reducible refine gate_dst (N := 22) rfl ?_); refine wpList_load_row rfl 24 (.tmp 1) rfl kl rfl 24 #[.slice A0 l.length c0, .int .i64 a] (0, 0) _ (HS.out.get 0 rfl) Try.underlying24 rfl (by kernel_rfl) ?_) | (go_at_call 20; refine Calls.mono (lane_Next.calls K Ao co l a n _ HLo.out HCo.out HX.out) ?_; rintro e_ w6 ⟨rfl, hb⟩; have HN := Lib.hid (show Sx w [(kl, #[.slice A0 l.length c0, .int .i64 a], 24)] [] w6 from HS.out.below hb); clear HS hb; have HS := Lib.hid HN.out; clear HN))
      go_loopw [4] (fun v4 w' => ∃ i_ : Nat, i_ ≤ l.length ∧ v4 = .int .i64 i_ ∧ Aside0 (Sx w [(kl, #[.slice A0 l.length c0, .int .i64 a], 24)] [] w')) (fun v4 _ => l.length - (intOf v4).toNat)
      case atStart => exact ⟨0, Nat.zero_le _, rfl, ⟨HS.out⟩⟩
      case round =>
        clear HS
        obtain ⟨i_, hi, rfl, HS0⟩ := hrel
        have HS := Lib.hid HS0.out
        clear HS0
        by_cases ci : i_ < l.length
        case neg =>
          have cib : decide ((i_ : Int) < (l.length : Int)) = false := decide_eq_false (by omega)
          have cib2 : decide (i_ < l.length) = false := decide_eq_false ci
          have k0 : wr.cell? ⟨kl, 0, none⟩ = some (.slice A0 l.length c0) := (blk_cell (HS.out.get 0 rfl) 0).trans rfl
          have k1 : wr.cell? ⟨kl, 1, none⟩ = some (.int .i64 a) := (blk_cell (HS.out.get 0 rfl) 1).trans rfl
          clear ci
          by_cases ca : a = -1
          case neg =>
            have hge : 0 ≤ a := by have := Hk.out.run; omega
            have hna : n = a := by rw [← Hn.out]; unfold nextV; rw [if_neg (fun h => ca h.1)]
            have c1 : decide (0 ≤ a) = true := decide_eq_true hge
            have c2 : (n == a) = true := by simp [hna]
            clear ca
            have mixed : Try.prog.follows .mixedOrders = true := by kernel_rfl
            go_wp2
            go_quiet (fail)
            have H1 := Lib.hid (HS.out.below (pw_below_drewN (Below.refl _ wr) nq))
            clear HS
            go_wp2
            go_ret
            exact ⟨rfl, H1.out.B⟩
          case pos =>
            have cg : decide (0 ≤ a) = false := decide_eq_false (by omega)
            have ca1 : (a == -1) = true := by simp [ca]
            obtain ⟨hv, hh, hhi⟩ := lhas_eq (l := l) (run := a) (t := n) (k := K) (by omega) (by omega)
            have HH := Lib.hid hh
            have ch : (hv == decide (0 < l.length)) = true := by
              by_cases ce : l = []
              · have : ¬ hv = true := fun h => by obtain ⟨x, hx, _⟩ := hhi.1 h; rw [ce] at hx; cases hx
                rw [Bool.eq_false_iff.2 this, ce]; rfl
              · have h1 : hv = true := hhi.2 (by rw [← Hn.out]; exact nextV_has Hk.out ce)
                rw [h1, decide_eq_true (List.length_pos_iff.2 ce)]; rfl
            have ch2 : (hv == decide ((0 : Int) < (l.length : Int))) = true := by rw [← ch]; congr 1; exact decide_eq_decide.2 (by omega)
            have cn : ((n == -1) == ((l.length : Int) == 0)) = true := by
              by_cases ce : l = []
              · have : n = -1 := by rw [← Hn.out, ce]; unfold nextV; simp; exact ca
                rw [this, ce]; rfl
              · have h1 : 0 ≤ n := by obtain ⟨x, hx, hx0⟩ := nextV_has Hk.out ce; have := (Hk.out.1 x hx).1; rw [Hn.out] at hx0; omega
                have h2 : l.length ≠ 0 := fun h => ce (List.length_eq_zero_iff.1 h)
                have e1 : (n == -1) = false := by simp; omega
                have e2 : ((l.length : Int) == 0) = false := by simp; exact ce
                rw [e1, e2]; rfl
            clear hh hhi
            clear ca
            go_wp2
            clear k0 k1
            have HN := Lib.hid (HS.out.below (below_drew1 (Below.refl _ _)))
            clear HS
            have HS := Lib.hid HN.out
            clear HN
            refine start_ (n := 34) (S := fun W_ => W_.heap[kl]? = some (.cells #[.slice A0 l.length c0, .int .i64 a] 24 (0, 0))) (ds := []) #[false, false, false, false, false, false, false, false, false, false, false, false, false, false, false, false, false, false, false, false, false, false, false, false, false, false, false, false, false, false, false, false, false, false] (by kernel_rfl) rfl rfl (HS.out.get 0 rfl) (fun hHeld => ?_)
            refine pure_ (i := 0) (N := some 79) (v := ?_) (a' := ?_) #[true, false, false, false, false, false, false, false, false, false, false, false, false, false, false, false, false, false, false, false, false, false, false, false, false, false, false, false, false, false, false, false, false, false] rfl rfl (by kernel_rfl) (fun _ _ _ h => h) (Or.inl ⟨by rfl, ?_⟩) ?_ ?_
            rotate_left
            · intro w'
              go_simp
              with_reducible rfl
            rotate_left
            · simp only [Act.put, List.setIfInBounds_toArray, List.set_cons_zero, List.set_cons_succ, i64_w, i32_w]
              rfl
            refine take_ (i := 1) (N := some 80) (v := ?_) (a' := ?_) #[true, true, false, false, false, false, false, false, false, false, false, false, false, false, false, false, false, false, false, false, false, false, false, false, false, false, false, false, false, false, false, false, false, false] rfl rfl (by kernel_rfl) (fun _ _ _ h => h) (Or.inl ⟨by rfl, ?_⟩) hHeld ?_ ?_
            rotate_left
            · rintro w' h0
              have s0 : w'.cell? ⟨kl, 0, none⟩ = some (.slice A0 l.length c0) := (blk_cell h0 0).trans rfl
              have s1 : w'.cell? ⟨kl, 1, none⟩ = some (.int .i64 a) := (blk_cell h0 1).trans rfl
              clear h0
              go_simp
              with_reducible rfl
            rotate_left
            · simp only [Act.put, List.setIfInBounds_toArray, List.set_cons_zero, List.set_cons_succ, i64_w, i32_w]
              rfl
            refine pure_ (i := 2) (N := some 81) (v := ?_) (a' := ?_) #[true, true, true, false, false, false, false, false, false, false, false, false, false, false, false, false, false, false, false, false, false, false, false, false, false, false, false, false, false, false, false, false, false, false] rfl rfl (by kernel_rfl) (fun _ _ _ h => h) (Or.inl ⟨by rfl, ?_⟩) ?_ ?_
            rotate_left
            · intro w'
              go_simp
              with_reducible rfl
            rotate_left
            · simp only [Act.put, List.setIfInBounds_toArray, List.set_cons_zero, List.set_cons_succ, i64_w, i32_w]
              rfl
            refine pure_ (i := 3) (N := some 82) (v := ?_) (a' := ?_) #[true, true, true, true, false, false, false, false, false, false, false, false, false, false, false, false, false, false, false, false, false, false, false, false, false, false, false, false, false, false, false, false, false, false] rfl rfl (by kernel_rfl) (fun _ _ _ h => h) (Or.inl ⟨by rfl, ?_⟩) ?_ ?_
            rotate_left
            · intro w'
              go_simp
              with_reducible rfl
            rotate_left
            · simp only [Act.put, List.setIfInBounds_toArray, List.set_cons_zero, List.set_cons_succ, i64_w, i32_w]
              rfl
            refine pure_ (i := 4) (N := some 83) (v := undef) (a' := ?_) #[true, true, true, true, true, false, false, false, false, false, false, false, false, false, false, false, false, false, false, false, false, false, false, false, false, false, false, false, false, false, false, false, false, false] rfl rfl (by kernel_rfl) (fun _ _ _ h => h) (Or.inr ⟨by rfl, rfl⟩) ?_ ?_
            rotate_left
            · simp only [Act.put, List.setIfInBounds_toArray, List.set_cons_zero, List.set_cons_succ, i64_w, i32_w]
              rfl
            refine pure_ (i := 5) (N := some 84) (v := undef) (a' := ?_) #[true, true, true, true, true, true, false, false, false, false, false, false, false, false, false, false, false, false, false, false, false, false, false, false, false, false, false, false, false, false, false, false, false, false] rfl rfl (by kernel_rfl) (fun _ _ _ h => h) (Or.inr ⟨by rfl, rfl⟩) ?_ ?_
            rotate_left
            · simp only [Act.put, List.setIfInBounds_toArray, List.set_cons_zero, List.set_cons_succ, i64_w, i32_w]
              rfl
            refine pure_ (i := 6) (N := some 85) (v := undef) (a' := ?_) #[true, true, true, true, true, true, true, false, false, false, false, false, false, false, false, false, false, false, false, false, false, false, false, false, false, false, false, false, false, false, false, false, false, false] rfl rfl (by kernel_rfl) (fun _ _ _ h => h) (Or.inr ⟨by rfl, rfl⟩) ?_ ?_
            rotate_left
            · simp only [Act.put, List.setIfInBounds_toArray, List.set_cons_zero, List.set_cons_succ, i64_w, i32_w]
              rfl
            refine pure_ (i := 7) (N := some 86) (v := undef) (a' := ?_) #[true, true, true, true, true, true, true, true, false, false, false, false, false, false, false, false, false, false, false, false, false, false, false, false, false, false, false, false, false, false, false, false, false, false] rfl rfl (by kernel_rfl) (fun _ _ _ h => h) (Or.inr ⟨by rfl, rfl⟩) ?_ ?_
            rotate_left
            · simp only [Act.put, List.setIfInBounds_toArray, List.set_cons_zero, List.set_cons_succ, i64_w, i32_w]
              rfl
            refine pure_ (i := 8) (N := some 87) (v := ?_) (a' := ?_) #[true, true, true, true, true, true, true, true, true, false, false, false, false, false, false, false, false, false, false, false, false, false, false, false, false, false, false, false, false, false, false, false, false, false] rfl rfl (by kernel_rfl) (fun _ _ _ h => h) (Or.inl ⟨by rfl, ?_⟩) ?_ ?_
            rotate_left
            · intro w'
              go_simp
              with_reducible rfl
            rotate_left
            · simp only [Act.put, List.setIfInBounds_toArray, List.set_cons_zero, List.set_cons_succ, i64_w, i32_w]
              rfl
            refine pure_ (i := 9) (N := some 88) (v := ?_) (a' := ?_) #[true, true, true, true, true, true, true, true, true, true, false, false, false, false, false, false, false, false, false, false, false, false, false, false, false, false, false, false, false, false, false, false, false, false] rfl rfl (by kernel_rfl) (fun _ _ _ h => h) (Or.inl ⟨by rfl, ?_⟩) ?_ ?_
            rotate_left
            · intro w'
              go_simp
              with_reducible rfl
            rotate_left
            · simp only [Act.put, List.setIfInBounds_toArray, List.set_cons_zero, List.set_cons_succ, i64_w, i32_w]
              rfl
            refine pure_ (i := 10) (N := some 89) (v := ?_) (a' := ?_) #[true, true, true, true, true, true, true, true, true, true, true, false, false, false, false, false, false, false, false, false, false, false, false, false, false, false, false, false, false, false, false, false, false, false] rfl rfl (by kernel_rfl) (fun _ _ _ h => h) (Or.inl ⟨by rfl, ?_⟩) ?_ ?_
            rotate_left
            · intro w'
              go_simp
              with_reducible rfl
            rotate_left
            · simp only [Act.put, List.setIfInBounds_toArray, List.set_cons_zero, List.set_cons_succ, i64_w, i32_w]
              rfl
            refine take_ (i := 11) (N := some 90) (v := ?_) (a' := ?_) #[true, true, true, true, true, true, true, true, true, true, true, true, false, false, false, false, false, false, false, false, false, false, false, false, false, false, false, false, false, false, false, false, false, false] rfl rfl (by kernel_rfl) (fun _ _ _ h => h) (Or.inl ⟨by rfl, ?_⟩) hHeld ?_ ?_
            rotate_left
            · rintro w' h0
              have s0 : w'.cell? ⟨kl, 0, none⟩ = some (.slice A0 l.length c0) := (blk_cell h0 0).trans rfl
              have s1 : w'.cell? ⟨kl, 1, none⟩ = some (.int .i64 a) := (blk_cell h0 1).trans rfl
              clear h0
              go_simp
              with_reducible rfl
            rotate_left
            · simp only [Act.put, List.setIfInBounds_toArray, List.set_cons_zero, List.set_cons_succ, i64_w, i32_w]
              rfl
            refine pure_ (i := 12) (N := some 91) (v := ?_) (a' := ?_) #[true, true, true, true, true, true, true, true, true, true, true, true, true, false, false, false, false, false, false, false, false, false, false, false, false, false, false, false, false, false, false, false, false, false] rfl rfl (by kernel_rfl) (fun _ _ _ h => h) (Or.inl ⟨by rfl, ?_⟩) ?_ ?_
            rotate_left
            · intro w'
              go_simp
              with_reducible rfl
            rotate_left
            · simp only [Act.put, List.setIfInBounds_toArray, List.set_cons_zero, List.set_cons_succ, i64_w, i32_w]
              rfl
            refine pure_ (i := 13) (N := some 92) (v := ?_) (a' := ?_) #[true, true, true, true, true, true, true, true, true, true, true, true, true, true, false, false, false, false, false, false, false, false, false, false, false, false, false, false, false, false, false, false, false, false] rfl rfl (by kernel_rfl) (fun _ _ _ h => h) (Or.inl ⟨by rfl, ?_⟩) ?_ ?_
            rotate_left
            · intro w'
              go_simp
              with_reducible rfl
            rotate_left
            · simp only [Act.put, List.setIfInBounds_toArray, List.set_cons_zero, List.set_cons_succ, i64_w, i32_w]
              rfl
            refine take_ (i := 14) (N := some 93) (v := .agg #[.slice A0 l.length c0, .int .i64 a]) (a' := ?_) #[true, true, true, true, true, true, true, true, true, true, true, true, true, true, true, false, false, false, false, false, false, false, false, false, false, false, false, false, false, false, false, false, false, false] rfl rfl (by kernel_rfl) (fun _ _ _ h => h) (Or.inl ⟨by rfl, fun w' hs => run_load_row_ rfl kl rfl 24 _ _ hs Try.underlying24 rfl (by kernel_rfl)⟩) hHeld ?_ ?_
            rotate_left
            · simp only [Act.put, List.setIfInBounds_toArray, List.set_cons_zero, List.set_cons_succ, i64_w, i32_w]
              rfl
            refine pure_ (i := 15) (N := some 94) (v := ?_) (a' := ?_) #[true, true, true, true, true, true, true, true, true, true, true, true, true, true, true, true, false, false, false, false, false, false, false, false, false, false, false, false, false, false, false, false, false, false] rfl rfl (by kernel_rfl) (fun _ _ _ h => h) (Or.inl ⟨by rfl, ?_⟩) ?_ ?_
            rotate_left
            · intro w'
              go_simp
              with_reducible rfl
            rotate_left
            · simp only [Act.put, List.setIfInBounds_toArray, List.set_cons_zero, List.set_cons_succ, i64_w, i32_w]
              rfl
            refine pure_ (i := 17) (N := some 96) (v := ?_) (a' := ?_) #[true, true, true, true, true, true, true, true, true, true, true, true, true, true, true, true, false, true, false, false, false, false, false, false, false, false, false, false, false, false, false, false, false, false] rfl rfl (by kernel_rfl) (fun _ _ _ h => h) (Or.inl ⟨by rfl, ?_⟩) ?_ ?_
            rotate_left
            · intro w'
              go_simp
              with_reducible rfl
            rotate_left
            · simp only [Act.put, List.setIfInBounds_toArray, List.set_cons_zero, List.set_cons_succ, i64_w, i32_w]
              rfl
            refine take_ (i := 18) (N := some 97) (v := ?_) (a' := ?_) #[true, true, true, true, true, true, true, true, true, true, true, true, true, true, true, true, false, true, true, false, false, false, false, false, false, false, false, false, false, false, false, false, false, false] rfl rfl (by kernel_rfl) (fun _ _ _ h => h) (Or.inl ⟨by rfl, ?_⟩) hHeld ?_ ?_
            rotate_left
            · rintro w' h0
              have s0 : w'.cell? ⟨kl, 0, none⟩ = some (.slice A0 l.length c0) := (blk_cell h0 0).trans rfl
              have s1 : w'.cell? ⟨kl, 1, none⟩ = some (.int .i64 a) := (blk_cell h0 1).trans rfl
              clear h0
              go_simp
              with_reducible rfl
            rotate_left
            · simp only [Act.put, List.setIfInBounds_toArray, List.set_cons_zero, List.set_cons_succ, i64_w, i32_w]
              rfl
            refine pure_ (i := 19) (N := some 98) (v := ?_) (a' := ?_) #[true, true, true, true, true, true, true, true, true, true, true, true, true, true, true, true, false, true, true, true, false, false, false, false, false, false, false, false, false, false, false, false, false, false] rfl rfl (by kernel_rfl) (fun _ _ _ h => h) (Or.inl ⟨by rfl, ?_⟩) ?_ ?_
            rotate_left
            · intro w'
              go_simp
              with_reducible rfl
            rotate_left
            · simp only [Act.put, List.setIfInBounds_toArray, List.set_cons_zero, List.set_cons_succ, i64_w, i32_w]
              rfl
            refine pure_ (i := 20) (N := some 99) (v := ?_) (a' := ?_) #[true, true, true, true, true, true, true, true, true, true, true, true, true, true, true, true, false, true, true, true, true, false, false, false, false, false, false, false, false, false, false, false, false, false] rfl rfl (by kernel_rfl) (fun _ _ _ h => h) (Or.inl ⟨by rfl, ?_⟩) ?_ ?_
            rotate_left
            · intro w'
              go_simp
              with_reducible rfl
            rotate_left
            · simp only [Act.put, List.setIfInBounds_toArray, List.set_cons_zero, List.set_cons_succ, i64_w, i32_w]
              rfl
            refine one_ (i := 16) (N := some 95) #[true, true, true, true, true, true, true, true, true, true, true, true, true, true, true, true, true, true, true, true, true, false, false, false, false, false, false, false, false, false, false, false, false, false] rfl rfl (by kernel_rfl) (by decide) (fun K_ hK => ?_)
            refine goes_ Try.func24 (by kernel_rfl) rfl #[.agg #[.slice A0 l.length c0, .int .i64 a], .int .i64 n] (by rfl) rfl rfl (by (try simp only [List.map_toArray, List.map_cons, List.map_nil]); first | done | rfl) ?_
            refine Calls.mono (trefoilref18_Has.calls K A0 c0 l a n hv _ (Kd.C_below HR.out HS.out.B) Hc.out HH.out) ?_
            rintro e_ W_ ⟨rfl, hb⟩
            refine ⟨_, rfl, ?_⟩
            have HN := Lib.hid (HS.out.below hb)
            clear HS hb
            have HS := Lib.hid HN.out
            clear HN
            refine hK.out _ _ (HS.out.get 0 rfl) (fun hHeld => ?_)
            clear hK K_
            refine norm_ (a' := ?_) ?_ ?_
            rotate_left
            · show Act.put _ (some 95) _ = _
              simp only [Act.put, List.setIfInBounds_toArray, List.set_cons_zero, List.set_cons_succ, i64_w, i32_w]
              rfl
            refine pure_ (i := 21) (N := some 100) (v := ?_) (a' := ?_) #[true, true, true, true, true, true, true, true, true, true, true, true, true, true, true, true, true, true, true, true, true, true, false, false, false, false, false, false, false, false, false, false, false, false] rfl rfl (by kernel_rfl) (fun _ _ _ h => h) (Or.inl ⟨by rfl, ?_⟩) ?_ ?_
            rotate_left
            · intro w'
              go_simp
              with_reducible rfl
            rotate_left
            · simp only [Act.put, List.setIfInBounds_toArray, List.set_cons_zero, List.set_cons_succ, i64_w, i32_w]
              rfl
            refine pure_ (i := 22) (N := some 101) (v := ?_) (a' := ?_) #[true, true, true, true, true, true, true, true, true, true, true, true, true, true, true, true, true, true, true, true, true, true, true, false, false, false, false, false, false, false, false, false, false, false] rfl rfl (by kernel_rfl) (fun _ _ _ h => h) (Or.inl ⟨by rfl, ?_⟩) ?_ ?_
            rotate_left
            · intro w'
              go_simp
              with_reducible rfl
            rotate_left
            · simp only [Act.put, List.setIfInBounds_toArray, List.set_cons_zero, List.set_cons_succ, i64_w, i32_w]
              rfl
            refine pure_ (i := 23) (N := some 102) (v := ?_) (a' := ?_) #[true, true, true, true, true, true, true, true, true, true, true, true, true, true, true, true, true, true, true, true, true, true, true, true, false, false, false, false, false, false, false, false, false, false] rfl rfl (by kernel_rfl) (fun _ _ _ h => h) (Or.inl ⟨by rfl, ?_⟩) ?_ ?_
            rotate_left
            · intro w'
              go_simp
              with_reducible rfl
            rotate_left
            · simp only [Act.put, List.setIfInBounds_toArray, List.set_cons_zero, List.set_cons_succ, i64_w, i32_w]
              rfl
            refine pure_ (i := 24) (N := some 103) (v := ?_) (a' := ?_) #[true, true, true, true, true, true, true, true, true, true, true, true, true, true, true, true, true, true, true, true, true, true, true, true, true, false, false, false, false, false, false, false, false, false] rfl rfl (by kernel_rfl) (fun _ _ _ h => h) (Or.inl ⟨by rfl, ?_⟩) ?_ ?_
            rotate_left
            · intro w'
              go_simp
              with_reducible rfl
            rotate_left
            · simp only [Act.put, List.setIfInBounds_toArray, List.set_cons_zero, List.set_cons_succ, i64_w, i32_w]
              rfl
            refine pure_ (i := 25) (N := some 104) (v := ?_) (a' := ?_) #[true, true, true, true, true, true, true, true, true, true, true, true, true, true, true, true, true, true, true, true, true, true, true, true, true, true, false, false, false, false, false, false, false, false] rfl rfl (by kernel_rfl) (fun _ _ _ h => h) (Or.inl ⟨by rfl, ?_⟩) ?_ ?_
            rotate_left
            · intro w'
              go_simp
              with_reducible rfl
            rotate_left
            · simp only [Act.put, List.setIfInBounds_toArray, List.set_cons_zero, List.set_cons_succ, i64_w, i32_w]
              rfl
            refine pure_ (i := 26) (N := some 105) (v := ?_) (a' := ?_) #[true, true, true, true, true, true, true, true, true, true, true, true, true, true, true, true, true, true, true, true, true, true, true, true, true, true, true, false, false, false, false, false, false, false] rfl rfl (by kernel_rfl) (fun _ _ _ h => h) (Or.inl ⟨by rfl, ?_⟩) ?_ ?_
            rotate_left
            · intro w'
              go_simp
              with_reducible rfl
            rotate_left
            · simp only [Act.put, List.setIfInBounds_toArray, List.set_cons_zero, List.set_cons_succ, i64_w, i32_w]
              rfl
            refine take_ (i := 27) (N := some 106) (v := ?_) (a' := ?_) #[true, true, true, true, true, true, true, true, true, true, true, true, true, true, true, true, true, true, true, true, true, true, true, true, true, true, true, true, false, false, false, false, false, false] rfl rfl (by kernel_rfl) (fun _ _ _ h => h) (Or.inl ⟨by rfl, ?_⟩) hHeld ?_ ?_
            rotate_left
            · rintro w' h0
              have s0 : w'.cell? ⟨kl, 0, none⟩ = some (.slice A0 l.length c0) := (blk_cell h0 0).trans rfl
              have s1 : w'.cell? ⟨kl, 1, none⟩ = some (.int .i64 a) := (blk_cell h0 1).trans rfl
              clear h0
              go_simp
              with_reducible rfl
            rotate_left
            · simp only [Act.put, List.setIfInBounds_toArray, List.set_cons_zero, List.set_cons_succ, i64_w, i32_w]
              rfl
            refine pure_ (i := 28) (N := some 107) (v := ?_) (a' := ?_) #[true, true, true, true, true, true, true, true, true, true, true, true, true, true, true, true, true, true, true, true, true, true, true, true, true, true, true, true, true, false, false, false, false, false] rfl rfl (by kernel_rfl) (fun _ _ _ h => h) (Or.inl ⟨by rfl, ?_⟩) ?_ ?_
            rotate_left
            · intro w'
              go_simp
              with_reducible rfl
            rotate_left
            · simp only [Act.put, List.setIfInBounds_toArray, List.set_cons_zero, List.set_cons_succ, i64_w, i32_w]
              rfl
            refine pure_ (i := 29) (N := some 108) (v := ?_) (a' := ?_) #[true, true, true, true, true, true, true, true, true, true, true, true, true, true, true, true, true, true, true, true, true, true, true, true, true, true, true, true, true, true, false, false, false, false] rfl rfl (by kernel_rfl) (fun _ _ _ h => h) (Or.inl ⟨by rfl, ?_⟩) ?_ ?_
            rotate_left
            · intro w'
              go_simp
              with_reducible rfl
            rotate_left
            · simp only [Act.put, List.setIfInBounds_toArray, List.set_cons_zero, List.set_cons_succ, i64_w, i32_w]
              rfl
            refine pure_ (i := 30) (N := some 109) (v := ?_) (a' := ?_) #[true, true, true, true, true, true, true, true, true, true, true, true, true, true, true, true, true, true, true, true, true, true, true, true, true, true, true, true, true, true, true, false, false, false] rfl rfl (by kernel_rfl) (fun _ _ _ h => h) (Or.inl ⟨by rfl, ?_⟩) ?_ ?_
            rotate_left
            · intro w'
              go_simp
              with_reducible rfl
            rotate_left
            · simp only [Act.put, List.setIfInBounds_toArray, List.set_cons_zero, List.set_cons_succ, i64_w, i32_w]
              rfl
            refine pure_ (i := 31) (N := some 110) (v := ?_) (a' := ?_) #[true, true, true, true, true, true, true, true, true, true, true, true, true, true, true, true, true, true, true, true, true, true, true, true, true, true, true, true, true, true, true, true, false, false] rfl rfl (by kernel_rfl) (fun _ _ _ h => h) (Or.inl ⟨by rfl, ?_⟩) ?_ ?_
            rotate_left
            · intro w'
              go_simp
              with_reducible rfl
            rotate_left
            · simp only [Act.put, List.setIfInBounds_toArray, List.set_cons_zero, List.set_cons_succ, i64_w, i32_w]
              rfl
            refine pure_ (i := 32) (N := some 111) (v := ?_) (a' := ?_) #[true, true, true, true, true, true, true, true, true, true, true, true, true, true, true, true, true, true, true, true, true, true, true, true, true, true, true, true, true, true, true, true, true, false] rfl rfl (by kernel_rfl) (fun _ _ _ h => h) (Or.inl ⟨by rfl, ?_⟩) ?_ ?_
            rotate_left
            · intro w'
              go_simp
              with_reducible rfl
            rotate_left
            · simp only [Act.put, List.setIfInBounds_toArray, List.set_cons_zero, List.set_cons_succ, i64_w, i32_w]
              rfl
            refine pure_ (i := 33) (N := some 2) (v := ?_) (a' := ?_) #[true, true, true, true, true, true, true, true, true, true, true, true, true, true, true, true, true, true, true, true, true, true, true, true, true, true, true, true, true, true, true, true, true, true] rfl rfl (by kernel_rfl) (fun _ _ _ h => h) (Or.inl ⟨by rfl, ?_⟩) ?_ ?_
            rotate_left
            · intro w'
              go_simp
              with_reducible rfl
            rotate_left
            · simp only [Act.put, List.setIfInBounds_toArray, List.set_cons_zero, List.set_cons_succ, i64_w, i32_w]
              rfl
            refine done_ (by kernel_rfl) ?_
            try go_wp2
            go_ret
            exact ⟨rfl, HS.out.B⟩
        case pos =>
          have cib : decide ((i_ : Int) < (l.length : Int)) = true := decide_eq_true (by omega)
          have cib2 : decide (i_ < l.length) = true := decide_eq_true ci
          have k0 : wr.cell? ⟨kl, 0, none⟩ = some (.slice A0 l.length c0) := (blk_cell (HS.out.get 0 rfl) 0).trans rfl
          have k1 : wr.cell? ⟨kl, 1, none⟩ = some (.int .i64 a) := (blk_cell (HS.out.get 0 rfl) 1).trans rfl
          go_wp2
          clear k0 k1
          go_loopw [5] (fun v5 w' => ∃ q_ : Nat, q_ ≤ l.length ∧ v5 = .int .i64 q_ ∧ Aside0 (Sx w [(kl, #[.slice A0 l.length c0, .int .i64 a], 24)] [] w')) (fun v5 _ => l.length - (intOf v5).toNat)
          case atStart => exact ⟨0, Nat.zero_le _, rfl, ⟨HS.out⟩⟩
          case round =>
            clear HS
            obtain ⟨q_, hq, rfl, HS0⟩ := hrel
            have HS := Lib.hid HS0.out
            clear HS0
            by_cases cq : q_ < l.length
            case neg =>
              have cqb : decide ((q_ : Int) < (l.length : Int)) = false := decide_eq_false (by omega)
              have cqb2 : decide (q_ < l.length) = false := decide_eq_false cq
              have k0 : wr.cell? ⟨kl, 0, none⟩ = some (.slice A0 l.length c0) := (blk_cell (HS.out.get 0 rfl) 0).trans rfl
              have k1 : wr.cell? ⟨kl, 1, none⟩ = some (.int .i64 a) := (blk_cell (HS.out.get 0 rfl) 1).trans rfl
              go_wp2
              go_roundw
              case rel => exact ⟨i_ + 1, by omega, by go_num, ⟨HS.out⟩⟩
              case measure => simp [intOf]; omega
            case pos =>
              have cqb : decide ((q_ : Int) < (l.length : Int)) = true := decide_eq_true (by omega)
              have cqb2 : decide (q_ < l.length) = true := decide_eq_true cq
              obtain ⟨ad, A2, c2, hA, x0, x1, x2, -, -⟩ := at_job HR.out ci
              obtain ⟨ad', A3, c3, hA', y0, y1, y2, -, -⟩ := at_job HR.out cq
              obtain rfl : ad = ad' := by rw [hA] at hA'; exact Option.some.inj hA'
              subst hA
              clear hA'
              obtain ⟨x, hx⟩ : ∃ x, l.getD i_ z27 = x := ⟨_, rfl⟩
              obtain ⟨y, hy⟩ : ∃ y, l.getD q_ z27 = y := ⟨_, rfl⟩
              rw [hx] at x0 x1 x2
              rw [hy] at y0 y1 y2
              have hmx : x ∈ l := hx ▸ mem_getD ci
              have hmy : y ∈ l := hy ▸ mem_getD cq
              have Hfl := Lib.hid (fun (h1 : a = -1) (h2 : x.f0 = n) => first_law Hk.out hmx hmy h1 (by rw [h2, Hn.out]))
              clear hx hy hmx hmy
              have X0 := Lib.hid x0
              have X1 := Lib.hid x1
              have X2 := Lib.hid x2
              have Y0 := Lib.hid y0
              have Y1 := Lib.hid y1
              have Y2 := Lib.hid y2
              clear x0 x1 x2 y0 y1 y2
              have k0 : wr.cell? ⟨kl, 0, none⟩ = some (.slice (some ad) l.length c0) := (blk_cell (HS.out.get 0 rfl) 0).trans rfl
              have k1 : wr.cell? ⟨kl, 1, none⟩ = some (.int .i64 a) := (blk_cell (HS.out.get 0 rfl) 1).trans rfl
              go_wp2
              clear k0 k1
              have HN := Lib.hid (HS.out.below (below_drew1 (Below.refl _ _)))
              clear HS
              have HS := Lib.hid HN.out
              clear HN
              refine start_ (n := 14) (S := fun W_ => W_.heap[kl]? = some (.cells #[.slice (some ad) l.length c0, .int .i64 a] 24 (0, 0)) ∧ W_.cell? (ad.add (i_ * 3)) = some (.int .i64 x.f0) ∧ W_.cell? ⟨(ad.add (i_ * 3)).block, (ad.add (i_ * 3)).off + 1, none⟩ = some (.int .i64 x.f1) ∧ W_.cell? ⟨(ad.add (i_ * 3)).block, (ad.add (i_ * 3)).off + 2, none⟩ = some (.slice A2 x.f2.length c2) ∧ W_.cell? (ad.add (q_ * 3)) = some (.int .i64 y.f0) ∧ W_.cell? ⟨(ad.add (q_ * 3)).block, (ad.add (q_ * 3)).off + 1, none⟩ = some (.int .i64 y.f1) ∧ W_.cell? ⟨(ad.add (q_ * 3)).block, (ad.add (q_ * 3)).off + 2, none⟩ = some (.slice A3 y.f2.length c3)) (ds := []) #[false, false, false, false, false, false, false, false, false, false, false, false, false, false] (by kernel_rfl) rfl rfl ⟨HS.out.get 0 rfl, pw_cell_below HS.out.B X0.out, pw_cell_below HS.out.B X1.out, pw_cell_below HS.out.B X2.out, pw_cell_below HS.out.B Y0.out, pw_cell_below HS.out.B Y1.out, pw_cell_below HS.out.B Y2.out⟩ (fun hHeld => ?_)
              refine pure_ (i := 0) (N := some 39) (v := ?_) (a' := ?_) #[true, false, false, false, false, false, false, false, false, false, false, false, false, false] rfl rfl (by kernel_rfl) (fun _ _ _ h => h) (Or.inl ⟨by rfl, ?_⟩) ?_ ?_
              rotate_left
              · intro w'
                go_simp
                with_reducible rfl
              rotate_left
              · simp only [Act.put, List.setIfInBounds_toArray, List.set_cons_zero, List.set_cons_succ, i64_w, i32_w]
                rfl
              refine take_ (i := 1) (N := some 40) (v := ?_) (a' := ?_) #[true, true, false, false, false, false, false, false, false, false, false, false, false, false] rfl rfl (by kernel_rfl) (fun _ _ _ h => h) (Or.inl ⟨by rfl, ?_⟩) hHeld ?_ ?_
              rotate_left
              · rintro w' ⟨h0, s1, s2, s3, s4, s5, s6⟩
                have s0 : w'.cell? ⟨kl, 0, none⟩ = some (.slice (some ad) l.length c0) := (blk_cell h0 0).trans rfl
                clear h0
                go_simp
                with_reducible rfl
              rotate_left
              · simp only [Act.put, List.setIfInBounds_toArray, List.set_cons_zero, List.set_cons_succ, i64_w, i32_w]
                rfl
              refine pure_ (i := 2) (N := some 41) (v := ?_) (a' := ?_) #[true, true, true, false, false, false, false, false, false, false, false, false, false, false] rfl rfl (by kernel_rfl) (fun _ _ _ h => h) (Or.inl ⟨by rfl, ?_⟩) ?_ ?_
              rotate_left
              · intro w'
                go_simp
                with_reducible rfl
              rotate_left
              · simp only [Act.put, List.setIfInBounds_toArray, List.set_cons_zero, List.set_cons_succ, i64_w, i32_w]
                rfl
              refine pure_ (i := 3) (N := some 42) (v := ?_) (a' := ?_) #[true, true, true, true, false, false, false, false, false, false, false, false, false, false] rfl rfl (by kernel_rfl) (fun _ _ _ h => h) (Or.inl ⟨by rfl, ?_⟩) ?_ ?_
              rotate_left
              · intro w'
                go_simp
                with_reducible rfl
              rotate_left
              · simp only [Act.put, List.setIfInBounds_toArray, List.set_cons_zero, List.set_cons_succ, i64_w, i32_w]
                rfl
              refine take_ (i := 4) (N := some 43) (v := ?_) (a' := ?_) #[true, true, true, true, true, false, false, false, false, false, false, false, false, false] rfl rfl (by kernel_rfl) (fun _ _ _ h => h) (Or.inl ⟨by rfl, ?_⟩) hHeld ?_ ?_
              rotate_left
              · rintro w' ⟨h0, s1, s2, s3, s4, s5, s6⟩
                have s0 : w'.cell? ⟨kl, 0, none⟩ = some (.slice (some ad) l.length c0) := (blk_cell h0 0).trans rfl
                clear h0
                go_simp
                with_reducible rfl
              rotate_left
              · simp only [Act.put, List.setIfInBounds_toArray, List.set_cons_zero, List.set_cons_succ, i64_w, i32_w]
                rfl
              refine pure_ (i := 5) (N := some 44) (v := ?_) (a' := ?_) #[true, true, true, true, true, true, false, false, false, false, false, false, false, false] rfl rfl (by kernel_rfl) (fun _ _ _ h => h) (Or.inl ⟨by rfl, ?_⟩) ?_ ?_
              rotate_left
              · intro w'
                go_simp
                with_reducible rfl
              rotate_left
              · simp only [Act.put, List.setIfInBounds_toArray, List.set_cons_zero, List.set_cons_succ, i64_w, i32_w]
                rfl
              refine take_ (i := 6) (N := some 45) (v := ?_) (a' := ?_) #[true, true, true, true, true, true, true, false, false, false, false, false, false, false] rfl rfl (by kernel_rfl) (fun _ _ _ h => h) (Or.inl ⟨by rfl, ?_⟩) hHeld ?_ ?_
              rotate_left
              · rintro w' ⟨h0, s1, s2, s3, s4, s5, s6⟩
                have s0 : w'.cell? ⟨kl, 0, none⟩ = some (.slice (some ad) l.length c0) := (blk_cell h0 0).trans rfl
                clear h0
                go_simp
                with_reducible rfl
              rotate_left
              · simp only [Act.put, List.setIfInBounds_toArray, List.set_cons_zero, List.set_cons_succ, i64_w, i32_w]
                rfl
              refine pure_ (i := 7) (N := some 46) (v := ?_) (a' := ?_) #[true, true, true, true, true, true, true, true, false, false, false, false, false, false] rfl rfl (by kernel_rfl) (fun _ _ _ h => h) (Or.inl ⟨by rfl, ?_⟩) ?_ ?_
              rotate_left
              · intro w'
                go_simp
                with_reducible rfl
              rotate_left
              · simp only [Act.put, List.setIfInBounds_toArray, List.set_cons_zero, List.set_cons_succ, i64_w, i32_w]
                rfl
              refine pure_ (i := 8) (N := some 47) (v := ?_) (a' := ?_) #[true, true, true, true, true, true, true, true, true, false, false, false, false, false] rfl rfl (by kernel_rfl) (fun _ _ _ h => h) (Or.inl ⟨by rfl, ?_⟩) ?_ ?_
              rotate_left
              · intro w'
                go_simp
                with_reducible rfl
              rotate_left
              · simp only [Act.put, List.setIfInBounds_toArray, List.set_cons_zero, List.set_cons_succ, i64_w, i32_w]
                rfl
              refine take_ (i := 9) (N := some 48) (v := ?_) (a' := ?_) #[true, true, true, true, true, true, true, true, true, true, false, false, false, false] rfl rfl (by kernel_rfl) (fun _ _ _ h => h) (Or.inl ⟨by rfl, ?_⟩) hHeld ?_ ?_
              rotate_left
              · rintro w' ⟨h0, s1, s2, s3, s4, s5, s6⟩
                have s0 : w'.cell? ⟨kl, 0, none⟩ = some (.slice (some ad) l.length c0) := (blk_cell h0 0).trans rfl
                clear h0
                go_simp
                with_reducible rfl
              rotate_left
              · simp only [Act.put, List.setIfInBounds_toArray, List.set_cons_zero, List.set_cons_succ, i64_w, i32_w]
                rfl
              refine join_ (σ := Nat × Nat) 2 #[true, true, true, true, true, true, true, true, true, true, true, true, false, false] (fun s_ => [(6, .pointer (some ⟨s_.1, 0, none⟩)), (7, .pointer (some ⟨s_.2, 0, none⟩))]) (fun s_ W_ => (W_.heap[kl]? = some (.cells #[.slice (some ad) l.length c0, .int .i64 a] 24 (0, 0)) ∧ W_.cell? (ad.add (i_ * 3)) = some (.int .i64 x.f0) ∧ W_.cell? ⟨(ad.add (i_ * 3)).block, (ad.add (i_ * 3)).off + 1, none⟩ = some (.int .i64 x.f1) ∧ W_.cell? ⟨(ad.add (i_ * 3)).block, (ad.add (i_ * 3)).off + 2, none⟩ = some (.slice A2 x.f2.length c2) ∧ W_.cell? (ad.add (q_ * 3)) = some (.int .i64 y.f0) ∧ W_.cell? ⟨(ad.add (q_ * 3)).block, (ad.add (q_ * 3)).off + 1, none⟩ = some (.int .i64 y.f1) ∧ W_.cell? ⟨(ad.add (q_ * 3)).block, (ad.add (q_ * 3)).off + 2, none⟩ = some (.slice A3 y.f2.length c3)) ∧ Sx w [(s_.2, #[.int .i64 0, .int .i64 0, .slice none 0 0], 27), (s_.1, #[.int .i64 0, .int .i64 0, .slice none 0 0], 27), (kl, #[.slice (some ad) l.length c0, .int .i64 a], 24)] [] W_) ?_ ?_
              rotate_left
              · intro hCont
                refine two_ (i := 10) (j := 11) (Ni := some 6) (Nj := some 7) #[true, true, true, true, true, true, true, true, true, true, true, false, false, false] #[true, true, true, true, true, true, true, true, true, true, false, true, false, false] rfl rfl rfl rfl (by kernel_rfl) (by decide) (by decide) (fun K hK => ?_) (fun K hK => ?_)
                · skip
                  refine boxed_step_ (by rfl) rfl (cs := #[.int .i64 0, .int .i64 0, .slice none 0 0]) (t := 27) (by first | (go_simp; done) | (go_simp; rfl)) ?_
                  intro ga hE_ wb hbox hb
                  have HN := Lib.hid (HS.out.box hE_ hbox hb)
                  clear HS hE_ hbox hb
                  have HS := Lib.hid HN.out
                  clear HN
                  refine hK.out _ _ ⟨HS.out.get 1 rfl, pw_cell_below HS.out.B X0.out, pw_cell_below HS.out.B X1.out, pw_cell_below HS.out.B X2.out, pw_cell_below HS.out.B Y0.out, pw_cell_below HS.out.B Y1.out, pw_cell_below HS.out.B Y2.out⟩ (fun hHeld => ?_)
                  clear hK K
                  refine norm_ (a' := ?_) ?_ ?_
                  rotate_left
                  · show Act.put _ (some 6) _ = _
                    simp only [Act.put, List.setIfInBounds_toArray, List.set_cons_zero, List.set_cons_succ, i64_w, i32_w]
                    rfl
                  refine one_ (i := 11) (N := some 7) #[true, true, true, true, true, true, true, true, true, true, true, true, false, false] rfl rfl (by kernel_rfl) (by decide) (fun K hK => ?_)
                  refine boxed_step_ (by rfl) rfl (cs := #[.int .i64 0, .int .i64 0, .slice none 0 0]) (t := 27) (by first | (go_simp; done) | (go_simp; rfl)) ?_
                  intro gb hE_ wb hbox hb
                  have HN := Lib.hid (HS.out.box hE_ hbox hb)
                  clear HS hE_ hbox hb
                  have HS := Lib.hid HN.out
                  clear HN
                  refine hK.out _ _ ⟨HS.out.get 2 rfl, pw_cell_below HS.out.B X0.out, pw_cell_below HS.out.B X1.out, pw_cell_below HS.out.B X2.out, pw_cell_below HS.out.B Y0.out, pw_cell_below HS.out.B Y1.out, pw_cell_below HS.out.B Y2.out⟩ (fun hHeld => ?_)
                  clear hK K
                  refine norm_ (a' := ?_) ?_ ?_
                  rotate_left
                  · show Act.put _ (some 7) _ = _
                    simp only [Act.put, List.setIfInBounds_toArray, List.set_cons_zero, List.set_cons_succ, i64_w, i32_w]
                    rfl
                  exact norm_ (by simp only [putAll, Act.put, List.setIfInBounds_toArray, List.set_cons_zero, List.set_cons_succ]) (hCont (ga, gb) _ ⟨hHeld, HS.out⟩)
                · skip
                  refine boxed_step_ (by rfl) rfl (cs := #[.int .i64 0, .int .i64 0, .slice none 0 0]) (t := 27) (by first | (go_simp; done) | (go_simp; rfl)) ?_
                  intro gb hE_ wb hbox hb
                  have HN := Lib.hid (HS.out.box hE_ hbox hb)
                  clear HS hE_ hbox hb
                  have HS := Lib.hid HN.out
                  clear HN
                  refine hK.out _ _ ⟨HS.out.get 1 rfl, pw_cell_below HS.out.B X0.out, pw_cell_below HS.out.B X1.out, pw_cell_below HS.out.B X2.out, pw_cell_below HS.out.B Y0.out, pw_cell_below HS.out.B Y1.out, pw_cell_below HS.out.B Y2.out⟩ (fun hHeld => ?_)
                  clear hK K
                  refine norm_ (a' := ?_) ?_ ?_
                  rotate_left
                  · show Act.put _ (some 7) _ = _
                    simp only [Act.put, List.setIfInBounds_toArray, List.set_cons_zero, List.set_cons_succ, i64_w, i32_w]
                    rfl
                  refine one_ (i := 10) (N := some 6) #[true, true, true, true, true, true, true, true, true, true, true, true, false, false] rfl rfl (by kernel_rfl) (by decide) (fun K hK => ?_)
                  refine boxed_step_ (by rfl) rfl (cs := #[.int .i64 0, .int .i64 0, .slice none 0 0]) (t := 27) (by first | (go_simp; done) | (go_simp; rfl)) ?_
                  intro ga hE_ wb hbox hb
                  have HN := Lib.hid (HS.out.box hE_ hbox hb)
                  clear HS hE_ hbox hb
                  have HS := Lib.hid HN.out
                  clear HN
                  refine hK.out _ _ ⟨HS.out.get 2 rfl, pw_cell_below HS.out.B X0.out, pw_cell_below HS.out.B X1.out, pw_cell_below HS.out.B X2.out, pw_cell_below HS.out.B Y0.out, pw_cell_below HS.out.B Y1.out, pw_cell_below HS.out.B Y2.out⟩ (fun hHeld => ?_)
                  clear hK K
                  refine norm_ (a' := ?_) ?_ ?_
                  rotate_left
                  · show Act.put _ (some 6) _ = _
                    simp only [Act.put, List.setIfInBounds_toArray, List.set_cons_zero, List.set_cons_succ, i64_w, i32_w]
                    rfl
                  exact norm_ (by simp only [putAll, Act.put, List.setIfInBounds_toArray, List.set_cons_zero, List.set_cons_succ]) (hCont (ga, gb) _ ⟨hHeld, HS.out.swap⟩)
              rintro ⟨ga, gb⟩ wj ⟨hHeld, hs_⟩
              have HS1 := Lib.hid (show Sx w [(gb, #[.int .i64 0, .int .i64 0, .slice none 0 0], 27), (ga, #[.int .i64 0, .int .i64 0, .slice none 0 0], 27), (kl, #[.slice (some ad) l.length c0, .int .i64 a], 24)] [] wj from hs_)
              clear HS hs_
              have HS := HS1
              clear HS1
              refine norm_ (a' := ?_) ?_ ?_
              rotate_left
              · simp only [putAll, Act.put, List.setIfInBounds_toArray, List.set_cons_zero, List.set_cons_succ]
                rfl
              refine one_ (i := 12) (N := none) #[true, true, true, true, true, true, true, true, true, true, true, true, true, false] rfl rfl (by kernel_rfl) (by decide) (fun K hK => ?_)
              refine skip_ (by rfl) rfl (run_store_row_ rfl ga rfl #[.int .i64 x.f0, .int .i64 x.f1, .slice A2 x.f2.length c2] #[.int .i64 0, .int .i64 0, .slice none 0 0] 27 (HS.out.get 1 rfl) rfl (by kernel_rfl) rfl rfl) ?_
              have HN := Lib.hid (show Sx w [(gb, #[.int .i64 0, .int .i64 0, .slice none 0 0], 27), (ga, #[.int .i64 x.f0, .int .i64 x.f1, .slice A2 x.f2.length c2], 27), (kl, #[.slice (some ad) l.length c0, .int .i64 a], 24)] [] _ from HS.out.row 1 rfl #[.int .i64 x.f0, .int .i64 x.f1, .slice A2 x.f2.length c2])
              clear HS
              have HS := Lib.hid HN.out
              clear HN
              refine hK.out _ _ ⟨HS.out.get 2 rfl, pw_cell_below HS.out.B X0.out, pw_cell_below HS.out.B X1.out, pw_cell_below HS.out.B X2.out, pw_cell_below HS.out.B Y0.out, pw_cell_below HS.out.B Y1.out, pw_cell_below HS.out.B Y2.out⟩ (fun hHeld => ?_)
              clear hK K
              refine one_ (i := 13) (N := none) #[true, true, true, true, true, true, true, true, true, true, true, true, true, true] rfl rfl (by kernel_rfl) (by decide) (fun K hK => ?_)
              refine skip_ (by rfl) rfl (run_store_row_ rfl gb rfl #[.int .i64 y.f0, .int .i64 y.f1, .slice A3 y.f2.length c3] #[.int .i64 0, .int .i64 0, .slice none 0 0] 27 (HS.out.get 0 rfl) rfl (by kernel_rfl) rfl rfl) ?_
              have HN := Lib.hid (show Sx w [(gb, #[.int .i64 y.f0, .int .i64 y.f1, .slice A3 y.f2.length c3], 27), (ga, #[.int .i64 x.f0, .int .i64 x.f1, .slice A2 x.f2.length c2], 27), (kl, #[.slice (some ad) l.length c0, .int .i64 a], 24)] [] _ from HS.out.row 0 rfl #[.int .i64 y.f0, .int .i64 y.f1, .slice A3 y.f2.length c3])
              clear HS
              have HS := Lib.hid HN.out
              clear HN
              refine hK.out _ _ ⟨HS.out.get 2 rfl, pw_cell_below HS.out.B X0.out, pw_cell_below HS.out.B X1.out, pw_cell_below HS.out.B X2.out, pw_cell_below HS.out.B Y0.out, pw_cell_below HS.out.B Y1.out, pw_cell_below HS.out.B Y2.out⟩ (fun hHeld => ?_)
              clear hK K
              refine done_ (by kernel_rfl) ?_
              clear hHeld X0 X1 X2 Y0 Y1 Y2
              obtain ⟨W1, hW1⟩ : ∃ W1, W1 = W1 := ⟨wr, rfl⟩
              clear hW1 W1
              have k1 := (blk_cell (HS.out.get 2 rfl) 1).trans (show _ = some (.int .i64 a) from rfl)
              have p0 := (blk_cell (HS.out.get 1 rfl) 0).trans (show _ = some (.int .i64 x.f0) from rfl)
              have p1 := (blk_cell (HS.out.get 1 rfl) 1).trans (show _ = some (.int .i64 x.f1) from rfl)
              have q0 := (blk_cell (HS.out.get 0 rfl) 0).trans (show _ = some (.int .i64 y.f0) from rfl)
              have q1 := (blk_cell (HS.out.get 0 rfl) 1).trans (show _ = some (.int .i64 y.f1) from rfl)
              by_cases d1 : a = -1
              case neg =>
                have e1 : (a == -1) = false := by simp [d1]
                clear d1
                go_wp2
                go_roundw
                case rel => exact ⟨q_ + 1, by omega, by go_num, ⟨HS.out.drop.drop⟩⟩
                case measure => simp [intOf]; omega
              case pos =>
                have e1 : (a == -1) = true := by simp [d1]
                have D1 := Lib.hid d1
                clear d1
                by_cases d2 : x.f0 = n
                case neg =>
                  have e2 : (x.f0 == n) = false := by simp [d2]
                  clear d2
                  go_wp2
                  go_roundw
                  case rel => exact ⟨q_ + 1, by omega, by go_num, ⟨HS.out.drop.drop⟩⟩
                  case measure => simp [intOf]; omega
                case pos =>
                  have e2 : (x.f0 == n) = true := by simp [d2]
                  have HNL := Lib.hid (Hfl.out D1.out d2)
                  clear d2
                  have e3 : decide (y.f1 < x.f1) = false := decide_eq_false (fun h => HNL.out (.inl h))
                  by_cases d4 : y.f1 = x.f1
                  case neg =>
                    have e4 : (y.f1 == x.f1) = false := by simp [d4]
                    clear d4
                    go_wp2
                    go_roundw
                    case rel => exact ⟨q_ + 1, by omega, by go_num, ⟨HS.out.drop.drop⟩⟩
                    case measure => simp [intOf]; omega
                  case pos =>
                    have e4 : (y.f1 == x.f1) = true := by simp [d4]
                    have e5 : decide (y.f0 < x.f0) = false := decide_eq_false (fun h => HNL.out (.inr ⟨d4, h⟩))
                    clear d4
                    go_wp2
                    go_roundw
                    case rel => exact ⟨q_ + 1, by omega, by go_num, ⟨HS.out.drop.drop⟩⟩
                    case measure => simp [intOf]; omega
end Go.Proofs.Yteodhffgnkdcfaa.Q
