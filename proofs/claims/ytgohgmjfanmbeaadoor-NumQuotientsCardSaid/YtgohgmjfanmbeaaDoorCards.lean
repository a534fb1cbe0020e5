/-
  DERIVED. GIVEN WITH THE SEED: THE CARDS: each row of YtgohgmjfanmbeaaDoorRows.lean that lists a variable, with what it lists TIED to the program's text (the seventh form; the later family's looks); each row that meets fmt, with fmt's text TOLD by the authors' own Lean function (tested against real Go, not proved from fmt's source: count such statements apart). THE CARD IS WHAT COUNTS. Prove the row's statement (the work); the ties are given (YtgohgmjfanmbeaaDoorTie.lean); close each card by the builder's one call (the guide's Derived/Test/ToyasCard.lean, 'card_holds'). Laid BY PROGRAM, IN A SANDBOX (cutbox-door.mjs). By AI agents, Wed Nov 11 2026. No macro, syntax, notation, axiom, sorry.
-/
import Derived.Test.YtgohgmjfanmbeaaDoorRows
import GoSem.ClaimSeven
namespace Go.Proofs.YtgohgmjfanmbeaaDoor
namespace Rows

/-- THE TIED CARD OF 'trefoillaw01.NumTells'. -/
def numTellsCard : Claim7 := { stood := { row := numTellsRow, standIns := [], harness := (true, "3b9ee31cdbc621feb98bb5761e5dda4dd8b8d02fa296d995b9d30182e5e51f32"), looks := false }, kinds := [], alts := [], laidByText := true, laidKinds := [.data, .data], laidTests := true, laidLooks := .later }
def NumTellsCardSaid : Prop := Claim7.holds Tryd.pinned (.plain (OpenSpec.ofChange numTellsSpec)) numTellsCard

/-- THE TIED CARD OF 'trefoillaw01.NumSubs'. -/
def numSubsCard : Claim7 := { stood := { row := numSubsRow, standIns := [], harness := (true, "3b9ee31cdbc621feb98bb5761e5dda4dd8b8d02fa296d995b9d30182e5e51f32"), looks := false }, kinds := [], alts := [], laidByText := true, laidKinds := [.data, .data], laidTests := true, laidLooks := .later }
def NumSubsCardSaid : Prop := Claim7.holds Tryd.pinned (.plain (OpenSpec.ofChange numSubsSpec)) numSubsCard

/-- THE TIED CARD OF 'trefoillaw01.NumQuotients'. -/
def numQuotientsCard : Claim7 := { stood := { row := numQuotientsRow, standIns := [], harness := (true, "3b9ee31cdbc621feb98bb5761e5dda4dd8b8d02fa296d995b9d30182e5e51f32"), looks := false }, kinds := [], alts := [], laidByText := true, laidKinds := [.data, .data], laidTests := true, laidLooks := .later }
def NumQuotientsCardSaid : Prop := Claim7.holds Tryd.pinned (.plain (OpenSpec.ofChange numQuotientsSpec)) numQuotientsCard

/-- THE TIED CARD OF 'trefoillaw01.NumOrder'. -/
def numOrderCard : Claim7 := { stood := { row := numOrderRow, standIns := [], harness := (true, "3b9ee31cdbc621feb98bb5761e5dda4dd8b8d02fa296d995b9d30182e5e51f32"), looks := false }, kinds := [], alts := [], laidByText := true, laidKinds := [.data, .data], laidTests := true, laidLooks := .later }
def NumOrderCardSaid : Prop := Claim7.holds Tryd.pinned (.plain (OpenSpec.ofChange numOrderSpec)) numOrderCard

/-- THE TIED CARD OF 'trefoillaw01.NumTwos'. -/
def numTwosCard : Claim7 := { stood := { row := numTwosRow, standIns := [], harness := (true, "3b9ee31cdbc621feb98bb5761e5dda4dd8b8d02fa296d995b9d30182e5e51f32"), looks := false }, kinds := [], alts := [], laidByText := true, laidKinds := [.data, .data], laidTests := true, laidLooks := .later }
def NumTwosCardSaid : Prop := Claim7.holds Tryd.pinned (.plain (OpenSpec.ofChange numTwosSpec)) numTwosCard

/-- THE TIED CARD OF 'trefoillaw01.NumLimits'. -/
def numLimitsCard : Claim7 := { stood := { row := numLimitsRow, standIns := [], harness := (true, "3b9ee31cdbc621feb98bb5761e5dda4dd8b8d02fa296d995b9d30182e5e51f32"), looks := false }, kinds := [], alts := [], laidByText := true, laidKinds := [.data, .data], laidTests := true, laidLooks := .later }
def NumLimitsCardSaid : Prop := Claim7.holds Tryd.pinned (.plain (OpenSpec.ofChange numLimitsSpec)) numLimitsCard

/-- THE TIED CARD OF 'trefoillaw01.NumRises'. -/
def numRisesCard : Claim7 := { stood := { row := numRisesRow, standIns := [], harness := (true, "3b9ee31cdbc621feb98bb5761e5dda4dd8b8d02fa296d995b9d30182e5e51f32"), looks := false }, kinds := [], alts := [], laidByText := true, laidKinds := [.data, .data], laidTests := true, laidLooks := .later }
def NumRisesCardSaid : Prop := Claim7.holds Tryd.pinned (.plain (OpenSpec.ofChange numRisesSpec)) numRisesCard

/-- THE SECOND FORM's CARD OF 'trefoillaw01.NumTells'. -/
def numTellsUptoCard : Claim7 := { stood := { row := numTellsUptoRow, standIns := [], harness := (true, "3b9ee31cdbc621feb98bb5761e5dda4dd8b8d02fa296d995b9d30182e5e51f32"), looks := false }, kinds := [], alts := [], laidByText := true, laidKinds := [.data, .data], laidTests := true, laidLooks := .later }
def NumTellsUptoCardSaid : Prop := Claim7.holds Tryd.pinned (.plain (OpenSpec.upto numTellsSpec)) numTellsUptoCard

/-- THE SECOND FORM's CARD OF 'trefoillaw01.NumSubs'. -/
def numSubsUptoCard : Claim7 := { stood := { row := numSubsUptoRow, standIns := [], harness := (true, "3b9ee31cdbc621feb98bb5761e5dda4dd8b8d02fa296d995b9d30182e5e51f32"), looks := false }, kinds := [], alts := [], laidByText := true, laidKinds := [.data, .data], laidTests := true, laidLooks := .later }
def NumSubsUptoCardSaid : Prop := Claim7.holds Tryd.pinned (.plain (OpenSpec.upto numSubsSpec)) numSubsUptoCard

/-- THE SECOND FORM's CARD OF 'trefoillaw01.NumQuotients'. -/
def numQuotientsUptoCard : Claim7 := { stood := { row := numQuotientsUptoRow, standIns := [], harness := (true, "3b9ee31cdbc621feb98bb5761e5dda4dd8b8d02fa296d995b9d30182e5e51f32"), looks := false }, kinds := [], alts := [], laidByText := true, laidKinds := [.data, .data], laidTests := true, laidLooks := .later }
def NumQuotientsUptoCardSaid : Prop := Claim7.holds Tryd.pinned (.plain (OpenSpec.upto numQuotientsSpec)) numQuotientsUptoCard

/-- THE SECOND FORM's CARD OF 'trefoillaw01.NumOrder'. -/
def numOrderUptoCard : Claim7 := { stood := { row := numOrderUptoRow, standIns := [], harness := (true, "3b9ee31cdbc621feb98bb5761e5dda4dd8b8d02fa296d995b9d30182e5e51f32"), looks := false }, kinds := [], alts := [], laidByText := true, laidKinds := [.data, .data], laidTests := true, laidLooks := .later }
def NumOrderUptoCardSaid : Prop := Claim7.holds Tryd.pinned (.plain (OpenSpec.upto numOrderSpec)) numOrderUptoCard

/-- THE SECOND FORM's CARD OF 'trefoillaw01.NumTwos'. -/
def numTwosUptoCard : Claim7 := { stood := { row := numTwosUptoRow, standIns := [], harness := (true, "3b9ee31cdbc621feb98bb5761e5dda4dd8b8d02fa296d995b9d30182e5e51f32"), looks := false }, kinds := [], alts := [], laidByText := true, laidKinds := [.data, .data], laidTests := true, laidLooks := .later }
def NumTwosUptoCardSaid : Prop := Claim7.holds Tryd.pinned (.plain (OpenSpec.upto numTwosSpec)) numTwosUptoCard

/-- THE SECOND FORM's CARD OF 'trefoillaw01.NumLimits'. -/
def numLimitsUptoCard : Claim7 := { stood := { row := numLimitsUptoRow, standIns := [], harness := (true, "3b9ee31cdbc621feb98bb5761e5dda4dd8b8d02fa296d995b9d30182e5e51f32"), looks := false }, kinds := [], alts := [], laidByText := true, laidKinds := [.data, .data], laidTests := true, laidLooks := .later }
def NumLimitsUptoCardSaid : Prop := Claim7.holds Tryd.pinned (.plain (OpenSpec.upto numLimitsSpec)) numLimitsUptoCard

/-- THE SECOND FORM's CARD OF 'trefoillaw01.NumRises'. -/
def numRisesUptoCard : Claim7 := { stood := { row := numRisesUptoRow, standIns := [], harness := (true, "3b9ee31cdbc621feb98bb5761e5dda4dd8b8d02fa296d995b9d30182e5e51f32"), looks := false }, kinds := [], alts := [], laidByText := true, laidKinds := [.data, .data], laidTests := true, laidLooks := .later }
def NumRisesUptoCardSaid : Prop := Claim7.holds Tryd.pinned (.plain (OpenSpec.upto numRisesSpec)) numRisesUptoCard
end Rows
end Go.Proofs.YtgohgmjfanmbeaaDoor
