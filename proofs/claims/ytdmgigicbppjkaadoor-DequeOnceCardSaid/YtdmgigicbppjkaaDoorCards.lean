/-
  DERIVED. GIVEN WITH THE SEED: THE CARDS: each row of YtdmgigicbppjkaaDoorRows.lean that lists a variable, with what it lists TIED to the program's text (the seventh form; the later family's looks); each row that meets fmt, with fmt's text TOLD by the authors' own Lean function (tested against real Go, not proved from fmt's source: count such statements apart). THE CARD IS WHAT COUNTS. Prove the row's statement (the work); the ties are given (YtdmgigicbppjkaaDoorTie.lean); close each card by the builder's one call (the guide's Derived/Test/ToyasCard.lean, 'card_holds'). Laid BY PROGRAM, IN A SANDBOX (cutbox-door.mjs). By AI agents, Wed Nov 11 2026. No macro, syntax, notation, axiom, sorry.
-/
import Derived.Test.YtdmgigicbppjkaaDoorRows
import GoSem.ClaimSeven
namespace Go.Proofs.YtdmgigicbppjkaaDoor
namespace Rows

/-- THE TIED CARD OF 'trefoillaw12.DequeSteps'. -/
def dequeStepsCard : Claim7 := { stood := { row := dequeStepsRow, standIns := [], harness := (true, "7d95b396ccb8af22ee56e01f6abee1d40538eed2e517fbba8d107939352cfd65"), looks := false }, kinds := [], alts := [], laidByText := true, laidKinds := [.data, .data], laidTests := true, laidLooks := .later }
def DequeStepsCardSaid : Prop := Claim7.holds Tryd.pinned (.plain (OpenSpec.ofChange dequeStepsSpec)) dequeStepsCard

/-- THE TIED CARD OF 'trefoillaw12.DequeTells'. -/
def dequeTellsCard : Claim7 := { stood := { row := dequeTellsRow, standIns := [], harness := (true, "7d95b396ccb8af22ee56e01f6abee1d40538eed2e517fbba8d107939352cfd65"), looks := false }, kinds := [], alts := [], laidByText := true, laidKinds := [.data, .data], laidTests := true, laidLooks := .later }
def DequeTellsCardSaid : Prop := Claim7.holds Tryd.pinned (.plain (OpenSpec.ofChange dequeTellsSpec)) dequeTellsCard

/-- THE TIED CARD OF 'trefoillaw12.DequeOnce'. -/
def dequeOnceCard : Claim7 := { stood := { row := dequeOnceRow, standIns := [], harness := (true, "7d95b396ccb8af22ee56e01f6abee1d40538eed2e517fbba8d107939352cfd65"), looks := false }, kinds := [], alts := [], laidByText := true, laidKinds := [.data, .data], laidTests := true, laidLooks := .later }
def DequeOnceCardSaid : Prop := Claim7.holds Tryd.pinned (.plain (OpenSpec.ofChange dequeOnceSpec)) dequeOnceCard

/-- THE TIED CARD OF 'trefoillaw12.DequeThief'. -/
def dequeThiefCard : Claim7 := { stood := { row := dequeThiefRow, standIns := [], harness := (true, "7d95b396ccb8af22ee56e01f6abee1d40538eed2e517fbba8d107939352cfd65"), looks := false }, kinds := [], alts := [], laidByText := true, laidKinds := [.data, .data], laidTests := true, laidLooks := .later }
def DequeThiefCardSaid : Prop := Claim7.holds Tryd.pinned (.plain (OpenSpec.ofChange dequeThiefSpec)) dequeThiefCard

/-- THE TIED CARD OF 'trefoillaw12.DequePushes'. -/
def dequePushesCard : Claim7 := { stood := { row := dequePushesRow, standIns := [], harness := (true, "7d95b396ccb8af22ee56e01f6abee1d40538eed2e517fbba8d107939352cfd65"), looks := false }, kinds := [], alts := [], laidByText := true, laidKinds := [.data, .data], laidTests := true, laidLooks := .later }
def DequePushesCardSaid : Prop := Claim7.holds Tryd.pinned (.plain (OpenSpec.ofChange dequePushesSpec)) dequePushesCard

/-- THE SECOND FORM's CARD OF 'trefoillaw12.DequeSteps'. -/
def dequeStepsUptoCard : Claim7 := { stood := { row := dequeStepsUptoRow, standIns := [], harness := (true, "7d95b396ccb8af22ee56e01f6abee1d40538eed2e517fbba8d107939352cfd65"), looks := false }, kinds := [], alts := [], laidByText := true, laidKinds := [.data, .data], laidTests := true, laidLooks := .later }
def DequeStepsUptoCardSaid : Prop := Claim7.holds Tryd.pinned (.plain (OpenSpec.upto dequeStepsSpec)) dequeStepsUptoCard

/-- THE SECOND FORM's CARD OF 'trefoillaw12.DequeTells'. -/
def dequeTellsUptoCard : Claim7 := { stood := { row := dequeTellsUptoRow, standIns := [], harness := (true, "7d95b396ccb8af22ee56e01f6abee1d40538eed2e517fbba8d107939352cfd65"), looks := false }, kinds := [], alts := [], laidByText := true, laidKinds := [.data, .data], laidTests := true, laidLooks := .later }
def DequeTellsUptoCardSaid : Prop := Claim7.holds Tryd.pinned (.plain (OpenSpec.upto dequeTellsSpec)) dequeTellsUptoCard

/-- THE SECOND FORM's CARD OF 'trefoillaw12.DequeOnce'. -/
def dequeOnceUptoCard : Claim7 := { stood := { row := dequeOnceUptoRow, standIns := [], harness := (true, "7d95b396ccb8af22ee56e01f6abee1d40538eed2e517fbba8d107939352cfd65"), looks := false }, kinds := [], alts := [], laidByText := true, laidKinds := [.data, .data], laidTests := true, laidLooks := .later }
def DequeOnceUptoCardSaid : Prop := Claim7.holds Tryd.pinned (.plain (OpenSpec.upto dequeOnceSpec)) dequeOnceUptoCard

/-- THE SECOND FORM's CARD OF 'trefoillaw12.DequeThief'. -/
def dequeThiefUptoCard : Claim7 := { stood := { row := dequeThiefUptoRow, standIns := [], harness := (true, "7d95b396ccb8af22ee56e01f6abee1d40538eed2e517fbba8d107939352cfd65"), looks := false }, kinds := [], alts := [], laidByText := true, laidKinds := [.data, .data], laidTests := true, laidLooks := .later }
def DequeThiefUptoCardSaid : Prop := Claim7.holds Tryd.pinned (.plain (OpenSpec.upto dequeThiefSpec)) dequeThiefUptoCard

/-- THE SECOND FORM's CARD OF 'trefoillaw12.DequePushes'. -/
def dequePushesUptoCard : Claim7 := { stood := { row := dequePushesUptoRow, standIns := [], harness := (true, "7d95b396ccb8af22ee56e01f6abee1d40538eed2e517fbba8d107939352cfd65"), looks := false }, kinds := [], alts := [], laidByText := true, laidKinds := [.data, .data], laidTests := true, laidLooks := .later }
def DequePushesUptoCardSaid : Prop := Claim7.holds Tryd.pinned (.plain (OpenSpec.upto dequePushesSpec)) dequePushesUptoCard
end Rows
end Go.Proofs.YtdmgigicbppjkaaDoor
