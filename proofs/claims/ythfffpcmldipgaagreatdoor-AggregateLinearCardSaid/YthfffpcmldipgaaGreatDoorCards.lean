/-
  DERIVED. GIVEN WITH THE SEED: THE CARDS: each row of YthfffpcmldipgaaGreatDoorRows.lean that lists a variable, with what it lists TIED to the program's text (the seventh form; the later family's looks); each row that meets fmt, with fmt's text TOLD by the authors' own Lean function (tested against real Go, not proved from fmt's source: count such statements apart). THE CARD IS WHAT COUNTS. Prove the row's statement (the work); the ties are given (YthfffpcmldipgaaGreatDoorTie.lean); close each card by the builder's one call (the guide's Derived/Test/ToyasCard.lean, 'card_holds'). Laid BY PROGRAM, IN A SANDBOX (cutbox-door.mjs). By AI agents, Wed Nov 11 2026. No macro, syntax, notation, axiom, sorry.
-/
import Derived.Test.YthfffpcmldipgaaGreatDoorRows
import GoSem.ClaimSeven
namespace Go.Proofs.YthfffpcmldipgaaGreatDoor
namespace Rows

/-- THE TIED CARD OF 'joinlearnlaw11.AggregateLinear'. -/
def aggregateLinearCard : Claim7 := { stood := { row := aggregateLinearRow, standIns := [], harness := (true, "5e47c22cb6891943fac202cc27794955e8233d8f2dca663191a624568e1aff94"), looks := true }, kinds := [], alts := [], laidByText := true, laidKinds := [.data, .data, .data, .sentinel, .sentinel], laidTests := true, laidLooks := .later }
def AggregateLinearCardSaid : Prop := Claim7.holds Tryz.pinned (.plain (OpenSpec.ofChange aggregateLinearSpec)) aggregateLinearCard

/-- THE TIED CARD OF 'joinlearnlaw11.AggregateTextbook'. -/
def aggregateTextbookCard : Claim7 := { stood := { row := aggregateTextbookRow, standIns := [], harness := (true, "5e47c22cb6891943fac202cc27794955e8233d8f2dca663191a624568e1aff94"), looks := true }, kinds := [], alts := [], laidByText := true, laidKinds := [.data, .data, .data, .sentinel, .sentinel], laidTests := true, laidLooks := .later }
def AggregateTextbookCardSaid : Prop := Claim7.holds Tryz.pinned (.plain (OpenSpec.ofChange aggregateTextbookSpec)) aggregateTextbookCard

/-- THE SECOND FORM's CARD OF 'joinlearnlaw11.AggregateLinear'. -/
def aggregateLinearUptoCard : Claim7 := { stood := { row := aggregateLinearUptoRow, standIns := [], harness := (true, "5e47c22cb6891943fac202cc27794955e8233d8f2dca663191a624568e1aff94"), looks := true }, kinds := [], alts := [], laidByText := true, laidKinds := [.data, .data, .data, .sentinel, .sentinel], laidTests := true, laidLooks := .later }
def AggregateLinearUptoCardSaid : Prop := Claim7.holds Tryz.pinned (.plain (OpenSpec.upto aggregateLinearSpec)) aggregateLinearUptoCard

/-- THE SECOND FORM's CARD OF 'joinlearnlaw11.AggregateTextbook'. -/
def aggregateTextbookUptoCard : Claim7 := { stood := { row := aggregateTextbookUptoRow, standIns := [], harness := (true, "5e47c22cb6891943fac202cc27794955e8233d8f2dca663191a624568e1aff94"), looks := true }, kinds := [], alts := [], laidByText := true, laidKinds := [.data, .data, .data, .sentinel, .sentinel], laidTests := true, laidLooks := .later }
def AggregateTextbookUptoCardSaid : Prop := Claim7.holds Tryz.pinned (.plain (OpenSpec.upto aggregateTextbookSpec)) aggregateTextbookUptoCard
end Rows
end Go.Proofs.YthfffpcmldipgaaGreatDoor
