/-
  DERIVED. GIVEN WITH THE SEED: THE CARDS: each row of YtjbmogipdoiebaaDoorRows.lean that lists a variable, with what it lists TIED to the program's text (the seventh form; the later family's looks); each row that meets fmt, with fmt's text TOLD by the authors' own Lean function (tested against real Go, not proved from fmt's source: count such statements apart). THE CARD IS WHAT COUNTS. Prove the row's statement (the work); the ties are given (YtjbmogipdoiebaaDoorTie.lean); close each card by the builder's one call (the guide's Derived/Test/ToyasCard.lean, 'card_holds'). Laid BY PROGRAM, IN A SANDBOX (cutbox-door.mjs). By AI agents, Wed Nov 11 2026. No macro, syntax, notation, axiom, sorry.
-/
import Derived.Test.YtjbmogipdoiebaaDoorRows
import GoSem.ClaimSeven
namespace Go.Proofs.YtjbmogipdoiebaaDoor
namespace Rows

/-- THE TIED CARD OF 'trefoillaw15.EdfTells'. -/
def edfTellsCard : Claim7 := { stood := { row := edfTellsRow, standIns := [], harness := (true, "ffb55f56c163725a3d5d0bc4cf8c1cfc1e84f8451e159e66989f06ef6250d6f0"), looks := false }, kinds := [], alts := [], laidByText := true, laidKinds := [.data, .data], laidTests := true, laidLooks := .later }
def EdfTellsCardSaid : Prop := Claim7.holds Tryd.pinned (.plain (OpenSpec.ofChange edfTellsSpec)) edfTellsCard

/-- THE TIED CARD OF 'trefoillaw15.EdfFits'. -/
def edfFitsCard : Claim7 := { stood := { row := edfFitsRow, standIns := [], harness := (true, "ffb55f56c163725a3d5d0bc4cf8c1cfc1e84f8451e159e66989f06ef6250d6f0"), looks := false }, kinds := [], alts := [], laidByText := true, laidKinds := [.data, .data], laidTests := true, laidLooks := .later }
def EdfFitsCardSaid : Prop := Claim7.holds Tryd.pinned (.plain (OpenSpec.ofChange edfFitsSpec)) edfFitsCard

/-- THE TIED CARD OF 'trefoillaw15.EdfAlways'. -/
def edfAlwaysCard : Claim7 := { stood := { row := edfAlwaysRow, standIns := [], harness := (true, "ffb55f56c163725a3d5d0bc4cf8c1cfc1e84f8451e159e66989f06ef6250d6f0"), looks := false }, kinds := [], alts := [], laidByText := true, laidKinds := [.data, .data], laidTests := true, laidLooks := .later }
def EdfAlwaysCardSaid : Prop := Claim7.holds Tryd.pinned (.plain (OpenSpec.ofChange edfAlwaysSpec)) edfAlwaysCard

/-- THE TIED CARD OF 'trefoillaw15.EdfLess'. -/
def edfLessCard : Claim7 := { stood := { row := edfLessRow, standIns := [], harness := (true, "ffb55f56c163725a3d5d0bc4cf8c1cfc1e84f8451e159e66989f06ef6250d6f0"), looks := false }, kinds := [], alts := [], laidByText := true, laidKinds := [.data, .data], laidTests := true, laidLooks := .later }
def EdfLessCardSaid : Prop := Claim7.holds Tryd.pinned (.plain (OpenSpec.ofChange edfLessSpec)) edfLessCard

/-- THE TIED CARD OF 'trefoillaw15.EdfAlone'. -/
def edfAloneCard : Claim7 := { stood := { row := edfAloneRow, standIns := [], harness := (true, "ffb55f56c163725a3d5d0bc4cf8c1cfc1e84f8451e159e66989f06ef6250d6f0"), looks := false }, kinds := [], alts := [], laidByText := true, laidKinds := [.data, .data], laidTests := true, laidLooks := .later }
def EdfAloneCardSaid : Prop := Claim7.holds Tryd.pinned (.plain (OpenSpec.ofChange edfAloneSpec)) edfAloneCard

/-- THE TIED CARD OF 'trefoillaw15.EdfPeriods'. -/
def edfPeriodsCard : Claim7 := { stood := { row := edfPeriodsRow, standIns := [], harness := (true, "ffb55f56c163725a3d5d0bc4cf8c1cfc1e84f8451e159e66989f06ef6250d6f0"), looks := false }, kinds := [], alts := [], laidByText := true, laidKinds := [.data, .data], laidTests := true, laidLooks := .later }
def EdfPeriodsCardSaid : Prop := Claim7.holds Tryd.pinned (.plain (OpenSpec.ofChange edfPeriodsSpec)) edfPeriodsCard

/-- THE SECOND FORM's CARD OF 'trefoillaw15.EdfTells'. -/
def edfTellsUptoCard : Claim7 := { stood := { row := edfTellsUptoRow, standIns := [], harness := (true, "ffb55f56c163725a3d5d0bc4cf8c1cfc1e84f8451e159e66989f06ef6250d6f0"), looks := false }, kinds := [], alts := [], laidByText := true, laidKinds := [.data, .data], laidTests := true, laidLooks := .later }
def EdfTellsUptoCardSaid : Prop := Claim7.holds Tryd.pinned (.plain (OpenSpec.upto edfTellsSpec)) edfTellsUptoCard

/-- THE SECOND FORM's CARD OF 'trefoillaw15.EdfFits'. -/
def edfFitsUptoCard : Claim7 := { stood := { row := edfFitsUptoRow, standIns := [], harness := (true, "ffb55f56c163725a3d5d0bc4cf8c1cfc1e84f8451e159e66989f06ef6250d6f0"), looks := false }, kinds := [], alts := [], laidByText := true, laidKinds := [.data, .data], laidTests := true, laidLooks := .later }
def EdfFitsUptoCardSaid : Prop := Claim7.holds Tryd.pinned (.plain (OpenSpec.upto edfFitsSpec)) edfFitsUptoCard

/-- THE SECOND FORM's CARD OF 'trefoillaw15.EdfAlways'. -/
def edfAlwaysUptoCard : Claim7 := { stood := { row := edfAlwaysUptoRow, standIns := [], harness := (true, "ffb55f56c163725a3d5d0bc4cf8c1cfc1e84f8451e159e66989f06ef6250d6f0"), looks := false }, kinds := [], alts := [], laidByText := true, laidKinds := [.data, .data], laidTests := true, laidLooks := .later }
def EdfAlwaysUptoCardSaid : Prop := Claim7.holds Tryd.pinned (.plain (OpenSpec.upto edfAlwaysSpec)) edfAlwaysUptoCard

/-- THE SECOND FORM's CARD OF 'trefoillaw15.EdfLess'. -/
def edfLessUptoCard : Claim7 := { stood := { row := edfLessUptoRow, standIns := [], harness := (true, "ffb55f56c163725a3d5d0bc4cf8c1cfc1e84f8451e159e66989f06ef6250d6f0"), looks := false }, kinds := [], alts := [], laidByText := true, laidKinds := [.data, .data], laidTests := true, laidLooks := .later }
def EdfLessUptoCardSaid : Prop := Claim7.holds Tryd.pinned (.plain (OpenSpec.upto edfLessSpec)) edfLessUptoCard

/-- THE SECOND FORM's CARD OF 'trefoillaw15.EdfAlone'. -/
def edfAloneUptoCard : Claim7 := { stood := { row := edfAloneUptoRow, standIns := [], harness := (true, "ffb55f56c163725a3d5d0bc4cf8c1cfc1e84f8451e159e66989f06ef6250d6f0"), looks := false }, kinds := [], alts := [], laidByText := true, laidKinds := [.data, .data], laidTests := true, laidLooks := .later }
def EdfAloneUptoCardSaid : Prop := Claim7.holds Tryd.pinned (.plain (OpenSpec.upto edfAloneSpec)) edfAloneUptoCard

/-- THE SECOND FORM's CARD OF 'trefoillaw15.EdfPeriods'. -/
def edfPeriodsUptoCard : Claim7 := { stood := { row := edfPeriodsUptoRow, standIns := [], harness := (true, "ffb55f56c163725a3d5d0bc4cf8c1cfc1e84f8451e159e66989f06ef6250d6f0"), looks := false }, kinds := [], alts := [], laidByText := true, laidKinds := [.data, .data], laidTests := true, laidLooks := .later }
def EdfPeriodsUptoCardSaid : Prop := Claim7.holds Tryd.pinned (.plain (OpenSpec.upto edfPeriodsSpec)) edfPeriodsUptoCard
end Rows
end Go.Proofs.YtjbmogipdoiebaaDoor
