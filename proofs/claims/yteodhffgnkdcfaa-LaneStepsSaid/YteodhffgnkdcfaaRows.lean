/-
  No cell of these rows narrows 'for every input' (looked for: loops, veiled, ifaces, maps, wideKeys, modest, calm, conditions, laid).
  DERIVED. THE GIVEN ROWS OF THIS SEAT. 5 by the template 'for every input the law returns true; each argument reads behind the call as it read before'; 0 by the template 'total and deterministic' (their statements: YteodhffgnkdcfaaTotals.lean).
  GIVEN WITH THE SEED: the statements are not yours to turn. If you find one false, say at which input.
  Laid BY PROGRAM, IN A SANDBOX (cutbox-rows.mjs): the forced cells as the released guide's own fill.sh prints them over the translation b24dc864aacc2b94… (all of the seat's roots in one cut). By AI agents, Wed Nov 11 2026. No macro, syntax, notation, axiom, sorry.
-/
import Derived.Test.YteodhffgnkdcfaaChecked
import GoSem.Claim
import GoSem.ClaimJoined
import GoSem.ClaimMapViews
import Derived.JoinedTies
import Derived.KernelRfl
namespace Go.Proofs.Yteodhffgnkdcfaa
/- THE CELL 'sum', in the pinned program and in every row, IS THE sha256 OF THE DUMP (.gsa) THAT YteodhffgnkdcfaaProg.lean LOADS. Nothing in Lean hashes anything: it is a label: what it is worth is what the hold of that sum in a sandbox is worth. -/
noncomputable def Try.pinned : Pinned := { name := "yteodhffgnkdcfaa", sum := "b24dc864aacc2b94cf05fad82af7778fb1fc712795d2162ff046207e16e9d5d5", checked := Try.checked }
namespace Rows
def none {H : Type} : Left H := { results := [], args := [] }

/-- 'trefoillaw18.LaneSteps': WHATEVER THE INPUT: true; the input reads as it did. -/
def laneStepsSpec : ChangeSpec := { name := "laneSteps", fn := fun _ => fun
  | [d1, d2, d3, d4] => { results := [.lit (.bool true)], args := [d1, d2, d3, d4] }
  | _ => none }
def laneStepsRow : OpenClaim := { program := "yteodhffgnkdcfaa", sum := "b24dc864aacc2b94cf05fad82af7778fb1fc712795d2162ff046207e16e9d5d5", func := "trefoil/trefoillaw18.LaneSteps", spec := "laneSteps", inPlace := ["slices.overlaps[trefoil/api.Job]"], unfollowed := true, recurses := true, apart := false }
def LaneStepsSaid : Prop := laneStepsRow.holds Try.pinned (OpenSpec.ofChange laneStepsSpec)

/-- ITS FALSE NEIGHBOUR: 'it returns false'. Refute it at one input. -/
def laneStepsWrong : ChangeSpec := { name := "laneSteps", fn := fun _ => fun
  | [d1, d2, d3, d4] => { results := [.lit (.bool false)], args := [d1, d2, d3, d4] }
  | _ => none }
def LaneStepsWrongFalsely : Prop := laneStepsRow.holds Try.pinned (OpenSpec.ofChange laneStepsWrong)

/-- 'trefoillaw18.LaneEnds': WHATEVER THE INPUT: true; the input reads as it did. -/
def laneEndsSpec : ChangeSpec := { name := "laneEnds", fn := fun _ => fun
  | [d] => { results := [.lit (.bool true)], args := [d] }
  | _ => none }
def laneEndsRow : OpenClaim := { program := "yteodhffgnkdcfaa", sum := "b24dc864aacc2b94cf05fad82af7778fb1fc712795d2162ff046207e16e9d5d5", func := "trefoil/trefoillaw18.LaneEnds", spec := "laneEnds", inPlace := ["slices.overlaps[trefoil/api.Job]"], unfollowed := true, recurses := true, apart := false }
def LaneEndsSaid : Prop := laneEndsRow.holds Try.pinned (OpenSpec.ofChange laneEndsSpec)

/-- ITS FALSE NEIGHBOUR: 'it returns false'. Refute it at one input. -/
def laneEndsWrong : ChangeSpec := { name := "laneEnds", fn := fun _ => fun
  | [d] => { results := [.lit (.bool false)], args := [d] }
  | _ => none }
def LaneEndsWrongFalsely : Prop := laneEndsRow.holds Try.pinned (OpenSpec.ofChange laneEndsWrong)

/-- 'trefoillaw18.LaneFirst': WHATEVER THE INPUT: true; the input reads as it did. -/
def laneFirstSpec : ChangeSpec := { name := "laneFirst", fn := fun _ => fun
  | [d] => { results := [.lit (.bool true)], args := [d] }
  | _ => none }
def laneFirstRow : OpenClaim := { program := "yteodhffgnkdcfaa", sum := "b24dc864aacc2b94cf05fad82af7778fb1fc712795d2162ff046207e16e9d5d5", func := "trefoil/trefoillaw18.LaneFirst", spec := "laneFirst", inPlace := ["slices.overlaps[trefoil/api.Job]"], unfollowed := true, recurses := true, apart := false }
def LaneFirstSaid : Prop := laneFirstRow.holds Try.pinned (OpenSpec.ofChange laneFirstSpec)

/-- ITS FALSE NEIGHBOUR: 'it returns false'. Refute it at one input. -/
def laneFirstWrong : ChangeSpec := { name := "laneFirst", fn := fun _ => fun
  | [d] => { results := [.lit (.bool false)], args := [d] }
  | _ => none }
def LaneFirstWrongFalsely : Prop := laneFirstRow.holds Try.pinned (OpenSpec.ofChange laneFirstWrong)

/-- 'trefoillaw18.LaneBack': WHATEVER THE INPUT: true; the input reads as it did. -/
def laneBackSpec : ChangeSpec := { name := "laneBack", fn := fun _ => fun
  | [d1, d2] => { results := [.lit (.bool true)], args := [d1, d2] }
  | _ => none }
def laneBackRow : OpenClaim := { program := "yteodhffgnkdcfaa", sum := "b24dc864aacc2b94cf05fad82af7778fb1fc712795d2162ff046207e16e9d5d5", func := "trefoil/trefoillaw18.LaneBack", spec := "laneBack", inPlace := ["slices.overlaps[trefoil/api.Job]"], unfollowed := true, recurses := true, apart := false }
def LaneBackSaid : Prop := laneBackRow.holds Try.pinned (OpenSpec.ofChange laneBackSpec)

/-- ITS FALSE NEIGHBOUR: 'it returns false'. Refute it at one input. -/
def laneBackWrong : ChangeSpec := { name := "laneBack", fn := fun _ => fun
  | [d1, d2] => { results := [.lit (.bool false)], args := [d1, d2] }
  | _ => none }
def LaneBackWrongFalsely : Prop := laneBackRow.holds Try.pinned (OpenSpec.ofChange laneBackWrong)

/-- 'trefoillaw18.LaneOrder': WHATEVER THE INPUT: true; the input reads as it did. -/
def laneOrderSpec : ChangeSpec := { name := "laneOrder", fn := fun _ => fun
  | [d1, d2, d3] => { results := [.lit (.bool true)], args := [d1, d2, d3] }
  | _ => none }
def laneOrderRow : OpenClaim := { program := "yteodhffgnkdcfaa", sum := "b24dc864aacc2b94cf05fad82af7778fb1fc712795d2162ff046207e16e9d5d5", func := "trefoil/trefoillaw18.LaneOrder", spec := "laneOrder", inPlace := ["slices.overlaps[trefoil/api.Job]"], unfollowed := true, recurses := true, apart := false }
def LaneOrderSaid : Prop := laneOrderRow.holds Try.pinned (OpenSpec.ofChange laneOrderSpec)

/-- ITS FALSE NEIGHBOUR: 'it returns false'. Refute it at one input. -/
def laneOrderWrong : ChangeSpec := { name := "laneOrder", fn := fun _ => fun
  | [d1, d2, d3] => { results := [.lit (.bool false)], args := [d1, d2, d3] }
  | _ => none }
def LaneOrderWrongFalsely : Prop := laneOrderRow.holds Try.pinned (OpenSpec.ofChange laneOrderWrong)

/- THE SECOND FORM. 'bulk': how many values and letters a reading holds, each counted each time it is reached (what is shared counts as often as it is met; a slice's spare places count too). A statement '..UptoSaid' is the law's where the arguments, and the package variables that the reading takes, are together of bulk at most 1048576: NARROWER than '..Said'. Prove '..Said' where nothing that the law and all that it calls make is longer than what came in: it says more and counts as full. Else prove '..UptoSaid'. A law counts once. -/
mutual
def uptoBulk {H : Type} : DataW H → Nat
  | .lit (.string bytes) => bytes.length + 1
  | .lit _ => 1
  | .nil => 1
  | .ptr d => uptoBulk d + 1
  | .slice elems spare => uptoBulkAll elems + uptoBulkAll spare + 1
  | .agg parts => uptoBulkAll parts + 1
  | .iface _ d => uptoBulk d + 1
  | .map entries => uptoBulkEntries entries + 1
  | .held _ => 1
def uptoBulkAll {H : Type} : List (DataW H) → Nat
  | [] => 0
  | d :: r => uptoBulk d + uptoBulkAll r
def uptoBulkEntries {H : Type} : List (Lit × DataW H) → Nat
  | [] => 0
  | x :: r => uptoBulkEntry x + uptoBulkEntries r
def uptoBulkEntry {H : Type} : Lit × DataW H → Nat
  | (.string bytes, d) => bytes.length + uptoBulk d + 1
  | (_, d) => uptoBulk d + 1
 end
def uptoSmall : (H : Type) → List (DataW H) → Bool := fun _ ds => decide (uptoBulkAll ds ≤ 1048576)
def OpenSpec.upto (s : _root_.Go.ChangeSpec) : _root_.Go.OpenSpec := { _root_.Go.OpenSpec.ofChange s with cond := some uptoSmall }

/-- 'trefoillaw18.LaneSteps', WHERE WHAT IT READS IS OF BULK AT MOST 1048576: true; the input reads as it did. -/
def laneStepsUptoRow : OpenClaim := { program := "yteodhffgnkdcfaa", sum := "b24dc864aacc2b94cf05fad82af7778fb1fc712795d2162ff046207e16e9d5d5", func := "trefoil/trefoillaw18.LaneSteps", spec := "laneSteps", inPlace := ["slices.overlaps[trefoil/api.Job]"], unfollowed := true, recurses := true, apart := false, narrowed := true }
def LaneStepsUptoSaid : Prop := laneStepsUptoRow.holds Try.pinned (OpenSpec.upto laneStepsSpec)

/-- 'trefoillaw18.LaneEnds', WHERE WHAT IT READS IS OF BULK AT MOST 1048576: true; the input reads as it did. -/
def laneEndsUptoRow : OpenClaim := { program := "yteodhffgnkdcfaa", sum := "b24dc864aacc2b94cf05fad82af7778fb1fc712795d2162ff046207e16e9d5d5", func := "trefoil/trefoillaw18.LaneEnds", spec := "laneEnds", inPlace := ["slices.overlaps[trefoil/api.Job]"], unfollowed := true, recurses := true, apart := false, narrowed := true }
def LaneEndsUptoSaid : Prop := laneEndsUptoRow.holds Try.pinned (OpenSpec.upto laneEndsSpec)

/-- 'trefoillaw18.LaneFirst', WHERE WHAT IT READS IS OF BULK AT MOST 1048576: true; the input reads as it did. -/
def laneFirstUptoRow : OpenClaim := { program := "yteodhffgnkdcfaa", sum := "b24dc864aacc2b94cf05fad82af7778fb1fc712795d2162ff046207e16e9d5d5", func := "trefoil/trefoillaw18.LaneFirst", spec := "laneFirst", inPlace := ["slices.overlaps[trefoil/api.Job]"], unfollowed := true, recurses := true, apart := false, narrowed := true }
def LaneFirstUptoSaid : Prop := laneFirstUptoRow.holds Try.pinned (OpenSpec.upto laneFirstSpec)

/-- 'trefoillaw18.LaneBack', WHERE WHAT IT READS IS OF BULK AT MOST 1048576: true; the input reads as it did. -/
def laneBackUptoRow : OpenClaim := { program := "yteodhffgnkdcfaa", sum := "b24dc864aacc2b94cf05fad82af7778fb1fc712795d2162ff046207e16e9d5d5", func := "trefoil/trefoillaw18.LaneBack", spec := "laneBack", inPlace := ["slices.overlaps[trefoil/api.Job]"], unfollowed := true, recurses := true, apart := false, narrowed := true }
def LaneBackUptoSaid : Prop := laneBackUptoRow.holds Try.pinned (OpenSpec.upto laneBackSpec)

/-- 'trefoillaw18.LaneOrder', WHERE WHAT IT READS IS OF BULK AT MOST 1048576: true; the input reads as it did. -/
def laneOrderUptoRow : OpenClaim := { program := "yteodhffgnkdcfaa", sum := "b24dc864aacc2b94cf05fad82af7778fb1fc712795d2162ff046207e16e9d5d5", func := "trefoil/trefoillaw18.LaneOrder", spec := "laneOrder", inPlace := ["slices.overlaps[trefoil/api.Job]"], unfollowed := true, recurses := true, apart := false, narrowed := true }
def LaneOrderUptoSaid : Prop := laneOrderUptoRow.holds Try.pinned (OpenSpec.upto laneOrderSpec)

end Rows
end Go.Proofs.Yteodhffgnkdcfaa
