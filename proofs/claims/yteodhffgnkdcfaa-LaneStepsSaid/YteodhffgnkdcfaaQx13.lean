import Derived.Test.YteodhffgnkdcfaaQx0
import Derived.Test.YteodhffgnkdcfaaQx10
import Derived.Test.YteodhffgnkdcfaaQx12
namespace Go.Proofs.Yteodhffgnkdcfaa.Q
open Go.RowKit Go.Proofs.YteodhffgnkdcfaaW.PrintWords Go.Proofs.YteodhffgnkdcfaaW.PrintLast Go.Proofs.YteodhffgnkdcfaaW.PrintMore
attribute [local go_sem] max2_int min2_int max_two min_two max_three min_three max_four min_four
set_option linter.unusedVariables false
set_option linter.unusedSimpArgs false
theorem L_set {L : List (Nat × Array Value × Nat)} {i : Nat} {x y : Nat × Array Value × Nat} (h : L[i]? = some x) : (L.set i y)[i]? = some y := by
  rw [List.getElem?_set_self (List.getElem?_eq_some_iff.1 h).1]
theorem L_ne {L : List (Nat × Array Value × Nat)} {i k t t' : Nat} {cs cs' : Array Value} {P : Nat → Prop} (hN : ∀ (j : Nat) (x : Nat × Array Value × Nat), L[j]? = some x → P x.1) (h : L[i]? = some (k, cs, t)) : ∀ (j : Nat) (x : Nat × Array Value × Nat), (L.set i (k, cs', t'))[j]? = some x → P x.1 := by
  intro j x hx
  rw [List.getElem?_set] at hx
  split at hx
  · split at hx
    · obtain rfl := Option.some.inj hx
      exact hN i (k, cs, t) h
    · cases hx
  · exact hN j x hx
set_option maxHeartbeats 8000000 in
theorem drop_calls (w0 w : World) (L : List (Nat × Array Value × Nat)) (i kl base at_ : Nat) (v : Value) (run : Int) (js : List J3) (rows : List (List Value)) (hS : Sx w0 L [] w) (hL : L[i]? = some (kl, #[v, .int .i64 run], 24)) (hO : OJ base w v js rows) (hbase : w0.heap.size ≤ base) (hat : at_ < js.length) (hN : ∀ (j : Nat) (x : Nat × Array Value × Nat), L[j]? = some x → some x.1 ≠ v.ownBlock) :
    Calls Try.prog 31 #[.pointer (some ⟨kl, 0, none⟩), .int .i64 at_] w fun e w' => e = .returned (.tuple #[]) ∧ ∃ v' rows', Sx w0 (L.set i (kl, #[v', .int .i64 (if run = (js.getD at_ z27).f0 then -1 else run)], 24)) [] w' ∧ OJ base w' v' (js.eraseIdx at_) rows' ∧ v'.ownBlock = v.ownBlock := by
  obtain ⟨g, cap, A, c, hv, hcap, hg1, hg2, hrow, hcl, hFA, hc0, hc2⟩ := hO.at hat
  subst hv
  obtain ⟨t, ht⟩ : ∃ t, (js.getD at_ z27).f0 = t := ⟨_, rfl⟩
  rw [ht] at hc0 ⊢
  have HS := Lib.hid (hS.below (below_drew1 (Below.refl _ _)))
  have HO := Lib.hid (hO.below (below_drew1 (Below.refl _ _)))
  have HN := Lib.hid hN
  have HL := Lib.hid hL
  have HB := Lib.hid (Nat.le_trans hbase hg1)
  have k0 : w.drew.cell? ⟨kl, 0, none⟩ = some (Value.slice (some ⟨g, 0, none⟩) js.length cap) := (blk_cell (HS.out.get i HL.out) 0).trans rfl
  have k1 : w.drew.cell? ⟨kl, 1, none⟩ = some (.int .i64 run) := (blk_cell (HS.out.get i HL.out) 1).trans rfl
  have k2 : w.drew.cell? ⟨g, at_ * 3, none⟩ = some (.int .i64 t) := hc0
  have hmx : js.length ≤ 9223372036854775807 := by have := (Kd.R_reads' hO.row).2.2.2.1; have := hO.len; omega
  clear hS hL hO hN hFA hrow hcl hc0 hc2 ht hg1 hg2 hbase
  have hatb : (at_ : Int) < (js.length : Int) := by omega
  have hw1 : IntKind.i64.wrap ((at_ : Int) + 1) = (at_ : Int) + 1 := by rw [IntKind.wrap_i64]; omega
  have mixed : Try.prog.follows .mixedOrders = true := by kernel_rfl
  by_cases cr : run = t
  case pos =>
    subst cr
    rw [if_pos rfl]
    go_enter Try.func31, Try.ntmps31
    go_wp2
    go_region
    clear k0 k1 k2
    go_wp2_with (first | ((with_reducible refine gate_store (t := 3) (p := 19) (v := Operand.const (.int .i64 (-1))) ?hgs ?_); (case hgs => rfl); refine wpList_store_at rfl rfl 3 19 (Operand.const (.int .i64 (-1))) rfl kl 1 rfl 24 #[Value.slice (some ⟨g, 0, none⟩) js.length cap, .int .i64 run] #[Value.slice (some ⟨g, 0, none⟩) js.length cap, .int .i64 (-1)] [.int .i64 (-1)] (HS.out.get i HL.out) (by rfl) (by kernel_rfl) (Nat.le_of_ble_eq_true rfl) rfl rfl (fun W_ => Sx w0 (L.set i (kl, #[Value.slice (some ⟨g, 0, none⟩) js.length cap, .int .i64 (-1)], 24)) [] W_ ∧ OJ base W_ (Value.slice (some ⟨g, 0, none⟩) js.length cap) js rows) ⟨HS.out.row i HL.out #[Value.slice (some ⟨g, 0, none⟩) js.length cap, .int .i64 (-1)], HO.out.box (HS.out.get i HL.out) (by decide) (HN.out i _ HL.out) _⟩ ?_; rintro w9 ⟨he_, hx_⟩; clear HS HO; have HS := Lib.hid he_; have HO := Lib.hid hx_; clear he_ hx_; have k0 : w9.cell? ⟨kl, 0, none⟩ = some (Value.slice (some ⟨g, 0, none⟩) js.length cap) := (blk_cell (HS.out.get i (L_set HL.out)) 0).trans rfl))
    obtain ⟨L2, hL2⟩ : ∃ L2, L.set i (kl, #[Value.slice (some ⟨g, 0, none⟩) js.length cap, .int .i64 (-1)], 24) = L2 := ⟨_, rfl⟩
    have HE := Lib.hid (show ∀ y, L.set i y = L2.set i y from fun y => by rw [← hL2, List.set_set])
    have HL2 := Lib.hid (show L2[i]? = some (kl, #[Value.slice (some ⟨g, 0, none⟩) js.length cap, .int .i64 (-1)], 24) by rw [← hL2]; exact L_set HL.out)
    have HN2 := Lib.hid (show ∀ (j : Nat) (x : Nat × Array Value × Nat), L2[j]? = some x → some x.1 ≠ (Value.slice (some ⟨g, 0, none⟩) js.length cap).ownBlock by rw [← hL2]; exact L_ne (P := fun k => some k ≠ (Value.slice (some ⟨g, 0, none⟩) js.length cap).ownBlock) HN.out HL.out)
    have HS2 := Lib.hid (hL2 ▸ HS.out)
    clear HS HL HN hL2
    have HS := HS2
    have HL := HL2
    have HN := HN2
    clear HS2 HL2 HN2
    go_wp2_with (first | (go_at_call 45; refine Calls.mono (delJob_calls g cap js.length at_ base _ _ rows HO.out.row (Below.refl _ _) (by have := Kd.R_lt HO.out.row g rfl; have := HO.out.lo g rfl; omega) hat) ?_; rintro e_ w8 ⟨rfl, hR_, _, hg_⟩; have HO2 := Lib.hid (HO.out.del hR_ hg_); have HS2 := Lib.hid (HS.out.grown0 (HS.out.B.grown hg_ HS.out.B.size (fun k hk => by injection hk with hk; have := HB.out; omega)) hg_ (fun j x h => fun e => HN.out j x h (by rw [e]; rfl))); clear HO HS hR_ hg_; have HO := HO2; have HS := HS2; clear HO2 HS2) | ((with_reducible refine gate_store (t := 22) (p := 30) (v := .tmp 28) ?hgs ?_); (case hgs => rfl); refine wpList_store_at rfl rfl 22 30 (.tmp 28) rfl kl 0 rfl 24 #[Value.slice (some ⟨g, 0, none⟩) js.length cap, .int .i64 (-1)] #[Value.slice (some ⟨g, 0, none⟩) (js.length - 1) cap, .int .i64 (-1)] [Value.slice (some ⟨g, 0, none⟩) (js.length - 1) cap] (HS.out.get i HL.out) (by rfl) (by kernel_rfl) (Nat.le_of_ble_eq_true rfl) rfl rfl (fun W_ => Sx w0 (L2.set i (kl, #[Value.slice (some ⟨g, 0, none⟩) (js.length - 1) cap, .int .i64 (-1)], 24)) [] W_ ∧ OJ base W_ (Value.slice (some ⟨g, 0, none⟩) (js.length - 1) cap) (js.eraseIdx at_) (rows.eraseIdx at_)) ⟨HS.out.row i HL.out #[Value.slice (some ⟨g, 0, none⟩) (js.length - 1) cap, .int .i64 (-1)], HO.out.box (HS.out.get i HL.out) (by decide) (HN.out i _ HL.out) _⟩ ?_; rintro w9 ⟨he_, hx_⟩; clear HS HO; have HS := Lib.hid he_; have HO := Lib.hid hx_; clear he_ hx_))
    refine bodyPost_end (v := .tuple #[]) (by simp [results, Try.f31]) rfl ?_
    refine ⟨rfl, _, _, ?_, HO.out, rfl⟩
    rw [HE.out]
    exact HS.out
  case neg =>
    rw [if_neg cr]
    go_enter Try.func31, Try.ntmps31
    go_wp2
    go_region
    obtain ⟨L2, hL2⟩ : ∃ L2, L = L2 := ⟨_, rfl⟩
    clear hL2 L2
    go_wp2_with (first | (go_at_call 45; refine Calls.mono (delJob_calls g cap js.length at_ base _ _ rows HO.out.row (Below.refl _ _) (by have := Kd.R_lt HO.out.row g rfl; have := HO.out.lo g rfl; omega) hat) ?_; rintro e_ w8 ⟨rfl, hR_, _, hg_⟩; have HO2 := Lib.hid (HO.out.del hR_ hg_); have HS2 := Lib.hid (HS.out.grown0 (HS.out.B.grown hg_ HS.out.B.size (fun k hk => by injection hk with hk; have := HB.out; omega)) hg_ (fun j x h => fun e => HN.out j x h (by rw [e]; rfl))); clear HO HS hR_ hg_; have HO := HO2; have HS := HS2; clear HO2 HS2) | ((with_reducible refine gate_store (t := 22) (p := 30) (v := .tmp 28) ?hgs ?_); (case hgs => rfl); refine wpList_store_at rfl rfl 22 30 (.tmp 28) rfl kl 0 rfl 24 #[Value.slice (some ⟨g, 0, none⟩) js.length cap, .int .i64 run] #[Value.slice (some ⟨g, 0, none⟩) (js.length - 1) cap, .int .i64 run] [Value.slice (some ⟨g, 0, none⟩) (js.length - 1) cap] (HS.out.get i HL.out) (by rfl) (by kernel_rfl) (Nat.le_of_ble_eq_true rfl) rfl rfl (fun W_ => Sx w0 (L.set i (kl, #[Value.slice (some ⟨g, 0, none⟩) (js.length - 1) cap, .int .i64 run], 24)) [] W_ ∧ OJ base W_ (Value.slice (some ⟨g, 0, none⟩) (js.length - 1) cap) (js.eraseIdx at_) (rows.eraseIdx at_)) ⟨HS.out.row i HL.out #[Value.slice (some ⟨g, 0, none⟩) (js.length - 1) cap, .int .i64 run], HO.out.box (HS.out.get i HL.out) (by decide) (HN.out i _ HL.out) _⟩ ?_; rintro w9 ⟨he_, hx_⟩; clear HS HO; have HS := Lib.hid he_; have HO := Lib.hid hx_; clear he_ hx_))
    refine bodyPost_end (v := .tuple #[]) (by simp [results, Try.f31]) rfl ?_
    refine ⟨rfl, _, _, ?_, HO.out, rfl⟩
    exact HS.out
end Go.Proofs.Yteodhffgnkdcfaa.Q
