/-
  DERIVED. GIVEN WITH THE SEED: THE CARDS: each row of YtiigipnfnfpepaaGreatDoorRows.lean that lists a variable, with what it lists TIED to the program's text (the seventh form; the later family's looks); each row that meets fmt, with fmt's text TOLD by the authors' own Lean function (tested against real Go, not proved from fmt's source: count such statements apart). THE CARD IS WHAT COUNTS. Prove the row's statement (the work); the ties are given (YtiigipnfnfpepaaGreatDoorTie.lean); close each card by the builder's one call (the guide's Derived/Test/ToyasCard.lean, 'card_holds'). Laid BY PROGRAM, IN A SANDBOX (cutbox-door.mjs). By AI agents, Wed Nov 11 2026. No macro, syntax, notation, axiom, sorry.
-/
import Derived.Test.YtiigipnfnfpepaaGreatDoorRows
import GoSem.ClaimSeven
namespace Go.Proofs.YtiigipnfnfpepaaGreatDoor
namespace Rows

/-- THE TIED CARD OF 'belfrytop.WholeBegins'. -/
def wholeBeginsCard : Claim7 := { stood := { row := wholeBeginsRow, standIns := [], harness := (true, "23fae2b10c430b8ae49d6b29eaafcf008b45436357966287e5ba747633cd10fd"), looks := true }, kinds := [], alts := [], laidByText := true, laidKinds := [.data], laidTests := true, laidLooks := .later }
def WholeBeginsCardSaid : Prop := Claim7.holds Tryz.pinned (.plain (OpenSpec.ofChange wholeBeginsSpec)) wholeBeginsCard

/-- THE TIED CARD OF 'belfrytop.WholeMarks'. -/
def wholeMarksCard : Claim7 := { stood := { row := wholeMarksRow, standIns := [], harness := (true, "23fae2b10c430b8ae49d6b29eaafcf008b45436357966287e5ba747633cd10fd"), looks := true }, kinds := [], alts := [], laidByText := true, laidKinds := [.data], laidTests := true, laidLooks := .later }
def WholeMarksCardSaid : Prop := Claim7.holds Tryz.pinned (.plain (OpenSpec.ofChange wholeMarksSpec)) wholeMarksCard

/-- THE SECOND FORM's CARD OF 'belfrytop.WholeBegins'. -/
def wholeBeginsUptoCard : Claim7 := { stood := { row := wholeBeginsUptoRow, standIns := [], harness := (true, "23fae2b10c430b8ae49d6b29eaafcf008b45436357966287e5ba747633cd10fd"), looks := true }, kinds := [], alts := [], laidByText := true, laidKinds := [.data], laidTests := true, laidLooks := .later }
def WholeBeginsUptoCardSaid : Prop := Claim7.holds Tryz.pinned (.plain (OpenSpec.upto wholeBeginsSpec)) wholeBeginsUptoCard

/-- THE SECOND FORM's CARD OF 'belfrytop.WholeMarks'. -/
def wholeMarksUptoCard : Claim7 := { stood := { row := wholeMarksUptoRow, standIns := [], harness := (true, "23fae2b10c430b8ae49d6b29eaafcf008b45436357966287e5ba747633cd10fd"), looks := true }, kinds := [], alts := [], laidByText := true, laidKinds := [.data], laidTests := true, laidLooks := .later }
def WholeMarksUptoCardSaid : Prop := Claim7.holds Tryz.pinned (.plain (OpenSpec.upto wholeMarksSpec)) wholeMarksUptoCard
end Rows
end Go.Proofs.YtiigipnfnfpepaaGreatDoor
