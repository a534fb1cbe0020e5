/-
  DequeOnce is proved: for every input the statement's function returns true, and its arguments read behind the call as before.
  Conditions: those of the given row alone. The listed tables of math/bits hold what the program's own text lays in them (the given tie).
-/
import Derived.Test.YtdmgigicbppjkaaDoorRows
import Derived.Test.YtdmgigicbppjkaaDoorCards
import Derived.Test.YtdmgigicbppjkaaDoorTie
import Derived.Test.YtdmgigicbppjkaaDoorDeqOncePure
import Derived.Test.YtdmgigicbppjkaaDoorActOpen
import Derived.WalkKit
import Derived.ProofKit
import Derived.OpenShut
import Derived.ShutString
import Derived.ChangeOld
import Derived.Below
import Derived.SizedLaws
import Derived.LaidMore
import Derived.Stop.Joined
import Derived.SevenTiedAt
import Derived.Lib.LaidTab
import Derived.Stop.LaidErr
namespace Go.Proofs.YtdmgigicbppjkaaDoor.dequeOnce
open Go.ChangeShapes Go.WideShapes Go.ChangeAt Go.RowKit
open Go.Proofs.YtdmgigicbppjkaaDoorW.PrintWords
open Go.ChangeMaps (open_string shut_string)
set_option linter.unusedVariables false
theorem own : ownKnob Tryd.prog.godebug = none := by kernel_rfl
theorem laidOut : laidOutB Tryd.prog = true := by kernel_rfl
/-- The listed tables, as the row lists them. -/
def laidL : List (String × DataW Unit) := [("math/bits.deBruijn32tab", Rows.laid_math_bits_deBruijn32tab), ("math/bits.deBruijn64tab", Rows.laid_math_bits_deBruijn64tab)]
theorem door_met (os : Os) (args : Array Value) : laidMetH Tryd.prog laidL ((World.doorLaid Tryd.prog 19 os).forCall (fun _ _ => 0) ⟨#[], args, []⟩).memory :=
  laidMetH_of_parts3 (fuel := 8) (laidMet_of_run' 8 (by kernel_rfl) (by kernel_rfl)) (by kernel_rfl) (by kernel_rfl)
/-- What the row's condition gives the walks: the table of math/bits, cell by cell. -/
theorem tabOK {W : World} (h : laidMetH Tryd.prog laidL W) : Q.TabOK W := by
  rw [MakeChecks.laidMetH_plain _ _ _ (by kernel_rfl)] at h
  have h2 : laidMet Tryd.prog (("math/bits.deBruijn64tab", Lib.tabData .u8 (Lib.deBruijn64tab.map fun n : Nat => (n : Int))) :: []) W := (laidMet.tail h)
  have h3 := Lib.tabIs_of_head (g := 1) (t := 73) (e := 5) (n := 64) (by kernel_rfl) (by kernel_rfl) Tryd.underlying73 Tryd.underlying5 (by kernel_rfl) (by kernel_rfl) h2
  refine ⟨fun j hj => ?_⟩
  have h4 := h3.cell (g := 1) (by kernel_rfl) j (by simpa using hj)
  rw [h4]
  have hl : Lib.deBruijn64tab.length = 64 := rfl
  rw [List.getD_eq_getElem?_getD, List.getD_eq_getElem?_getD, List.getElem?_map, List.getElem?_eq_getElem hj]
  rfl
set_option maxRecDepth 100000 in
theorem lifted (os : Os) (started : os.Started) (H : Type) (enc : TypeId × Value → H) :
    ReturnsInHanded {} Tryd.checked os 5 .any (fun w args => (Rows.dequeOnceSpec.pre enc Tryd.prog Tryd.f5 Rows.dequeOnceRow.domain false w args ∧ laidMetH Tryd.prog laidL w) ∧ sizedMet enc Tryd.prog Tryd.f5 (OpenSpec.ofChange Rows.dequeOnceSpec) false w args)
      (Rows.dequeOnceSpec.post enc Tryd.prog Tryd.f5 false true false false) := by
  refine returnsInHanded_of_change_and (C := Tryd.checked) (X := fun w _ => laidMetH Tryd.prog laidL w) (fun _ _ _ hh h => h.of_heap hh) own started (by kernel_rfl) Tryd.func5
    (ChangeSpec.witness_shaped (enc := enc) (C := Tryd.checked) (os := os) (X := fun w _ => laidMetH Tryd.prog laidL w) false (World.doorLaid Tryd.prog 19 os) #[.int .i64 0, .slice none 0 0] 8 rfl (World.shaped_of_RefB (by kernel_rfl) (by kernel_rfl)) (by kernel_rfl) (by kernel_rfl) (by kernel_rfl) (door_met os _)) ?_
  intro W base args ds gs before hval0 hW hcnd hsz0 hL _
  have hsz : (DataW.weightsEach Tryd.prog (Tryd.f5.params.toList ++ Rows.dequeOnceSpec.plain.varTypes Tryd.prog) (ds ++ gs)).all (· ≤ reachBytes) = true := hsz0
  have hval : ∀ (j : Nat) t v, Tryd.f5.params[j]? = some t → args[j]? = some v → Value.okWide Tryd.prog W .any base t v := hval0
  have hW' := hW
  obtain ⟨p, q, hA0, hV, rfl, hfz, hnd⟩ := hW
  have hA : DataW.TrodAll enc Tryd.prog W 0 (fun _ => true) true Tryd.f5.params.toList args.toList ds p := hA0
  rw [Tryd.params5] at hA hval hsz
  obtain ⟨v0, vs0, d0, ds0, p0, q0, hargs, rfl, rfl, h0, r0⟩ := trodAll_cons hA
  obtain ⟨v1, vs1, d1, ds1, p1, q1, rfl, rfl, rfl, h1, r1⟩ := trodAll_cons r0
  obtain ⟨rfl, rfl, rfl⟩ := trodAll_nil r1
  obtain rfl : args = #[v0, v1] := by cases args; simp_all
  obtain ⟨rfl, rfl⟩ := trodVars_none hV
  obtain ⟨a0, rfl, rfl, rfl, w0⟩ := open_int Tryd.underlying3 (hval 0 3 v0 rfl rfl) h0
  have b0 := w0
  simp [Lit.wf] at b0
  obtain ⟨a1, len1, cap1, rfl⟩ := okWide_slice Tryd.underlying45 (hval 1 45 v1 rfl rfl)
  have k1 := h1
  have lt1 : ∀ x ∈ p1, x.block < W.heap.size := by obtain ⟨m, hm⟩ := k1; exact DataW.trod_lt m _ _ _ hm
  obtain ⟨l1, rfl, hc1, hr1⟩ := Open.arg_slice Q.z51 Tryd.underlying45 (by kernel_rfl) Open.opens51 h1
  obtain ⟨K, hK⟩ : ∃ K : Nat, 1000000 < K := ⟨_, Nat.lt_succ_self _⟩
  clear hA0 hval0 hsz0 hsz
  have hp : Q.trefoillaw12_DequeOnce.f K a0 l1 = some true := Q.dequeOnce K hK a0 l1
  refine (Q.trefoillaw12_DequeOnce.calls K a0 _ _ l1 true W hr1 hc1 hp (tabOK hL)).mono fun e W' ⟨he, bel0⟩ => ?_
  have bel : Below W.heap.size W W' := bel0
  subst he
  exact ⟨_, rfl, _, _, _, [], _, [], hW', trodAll_mk1 (shut_bool Tryd.underlying4 _), (trodAll_cons_mk (shut_int Tryd.underlying3 w0) (trodAll_cons_mk (Below.trod laidOut (by kernel_rfl) (of_decide_eq_true (by kernel_rfl)) k1 bel lt1) trodAll_mk0)), rfl, bel.frame _, fun h => by cases h⟩
theorem noStandIn (j : Nat) (t : TypeId) (ht : Tryd.f5.params[j]? = some t) : Tryd.prog.wantsStandIn t = false := by
  rw [Tryd.params5] at ht
  have hj : j < 2 := (Array.getElem?_eq_some_iff.1 ht).1
  match j, hj, ht with
  | 0, _, ht =>
    obtain rfl : 3 = t := by simpa using ht
    exact (show Tryd.prog.wantsStandIn 3 = false by kernel_rfl)
  | 1, _, ht =>
    obtain rfl : 45 = t := by simpa using ht
    exact (show Tryd.prog.wantsStandIn 45 = false by kernel_rfl)
theorem over : Rows.dequeOnceRow.holds Tryd.pinned (OpenSpec.ofChange Rows.dequeOnceSpec) :=
  OpenClaim.holds_of_wide 5 Tryd.f5 rfl rfl rfl rfl rfl rfl rfl ⟨rfl, rfl, rfl, rfl, rfl⟩ rfl rfl rfl rfl rfl (by kernel_rfl) Tryd.func5 (by kernel_rfl)
    (of_decide_eq_true (by kernel_rfl)) (by unfold Func.isWrapper; first | (rw [if_pos (by decide +kernel)]; kernel_rfl) | (rw [if_neg (by decide +kernel)]; exact ⟨rfl, rfl⟩))
    (fun os started H enc _ => lifted os started H enc)
theorem proved : Rows.DequeOnceCardSaid :=
  Claim7.holds_tied_plain_at .later [] [.data, .data] true (true, "7d95b396ccb8af22ee56e01f6abee1d40538eed2e517fbba8d107939352cfd65") false over (fun _ h => by cases h) (by kernel_rfl) (fun _ h => by cases h) dequeOnce_row_tie rfl ⟨rfl, rfl⟩ (by kernel_rfl) rfl
    (fun f fn hf hfn => by
      obtain rfl : f = 5 := Option.some.inj ((show Tryd.prog.funcNamed "trefoil/trefoillaw12.DequeOnce" = some 5 by kernel_rfl).symm.trans hf) |>.symm
      obtain rfl : fn = Tryd.f5 := (Option.some.inj (Tryd.func5.symm.trans hfn)).symm
      exact ⟨by kernel_rfl, noStandIn⟩)
    (by kernel_rfl)
#print axioms proved
end Go.Proofs.YtdmgigicbppjkaaDoor.dequeOnce
namespace Go.Proofs.YtdmgigicbppjkaaDoor
/-- The row, under a short name, for the claim. -/
theorem dequeOnce_holds : Rows.DequeOnceCardSaid := dequeOnce.proved
end Go.Proofs.YtdmgigicbppjkaaDoor
