/-
  DERIVED. GIVEN WITH THE SEED: THE CARDS: each row of YteodhffgnkdcfaaDoorRows.lean that lists a variable, with what it lists TIED to the program's text (the seventh form; the later family's looks); each row that meets fmt, with fmt's text TOLD by the authors' own Lean function (tested against real Go, not proved from fmt's source: count such statements apart). THE CARD IS WHAT COUNTS. Prove the row's statement (the work); the ties are given (YteodhffgnkdcfaaDoorTie.lean); close each card by the builder's one call (the guide's Derived/Test/ToyasCard.lean, 'card_holds'). Laid BY PROGRAM, IN A SANDBOX (cutbox-door.mjs). By AI agents, Wed Nov 11 2026. No macro, syntax, notation, axiom, sorry.
-/
import Derived.Test.YteodhffgnkdcfaaDoorRows
import GoSem.ClaimSeven
namespace Go.Proofs.YteodhffgnkdcfaaDoor
namespace Rows

/-- THE TIED CARD OF 'trefoillaw18.LaneMeets'. -/
def laneMeetsCard : Claim7 := { stood := { row := laneMeetsRow, standIns := [], harness := (true, "94eb4ad8fdbce27853c15d3976bd60dc584cbc1a31ff76e2191a60065dae7f6c"), looks := false }, kinds := [], alts := [], laidByText := true, laidKinds := [.data, .data], laidTests := true, laidLooks := .later }
def LaneMeetsCardSaid : Prop := Claim7.holds Tryd.pinned (.plain (OpenSpec.ofChange laneMeetsSpec)) laneMeetsCard

/-- THE SECOND FORM's CARD OF 'trefoillaw18.LaneMeets'. -/
def laneMeetsUptoCard : Claim7 := { stood := { row := laneMeetsUptoRow, standIns := [], harness := (true, "94eb4ad8fdbce27853c15d3976bd60dc584cbc1a31ff76e2191a60065dae7f6c"), looks := false }, kinds := [], alts := [], laidByText := true, laidKinds := [.data, .data], laidTests := true, laidLooks := .later }
def LaneMeetsUptoCardSaid : Prop := Claim7.holds Tryd.pinned (.plain (OpenSpec.upto laneMeetsSpec)) laneMeetsUptoCard
end Rows
end Go.Proofs.YteodhffgnkdcfaaDoor
