/-
  DERIVED. GIVEN WITH THE SEED: THE CARDS: each row of YtehkcnbodcdijaaGreatDoorRows.lean that lists a variable, with what it lists TIED to the program's text (the seventh form; the later family's looks); each row that meets fmt, with fmt's text TOLD by the authors' own Lean function (tested against real Go, not proved from fmt's source: count such statements apart). THE CARD IS WHAT COUNTS. Prove the row's statement (the work); the ties are given (YtehkcnbodcdijaaGreatDoorTie.lean); close each card by the builder's one call (the guide's Derived/Test/ToyasCard.lean, 'card_holds'). Laid BY PROGRAM, IN A SANDBOX (cutbox-door.mjs). By AI agents, Wed Nov 11 2026. No macro, syntax, notation, axiom, sorry.
-/
import Derived.Test.YtehkcnbodcdijaaGreatDoorRows
import GoSem.ClaimSeven
namespace Go.Proofs.YtehkcnbodcdijaaGreatDoor
namespace Rows

/-- THE TIED CARD OF 'joinlearnlaw11.AggregateTextbook'. -/
def aggregateTextbookCard : Claim7 := { stood := { row := aggregateTextbookRow, standIns := [], harness := (true, "81fde61f37cd65bb6a40f76952d9499838a13ba392ded713e5da4320286c0123"), looks := true }, kinds := [], alts := [], laidByText := true, laidKinds := [.data, .data, .data, .sentinel, .sentinel], laidTests := true, laidLooks := .later }
def AggregateTextbookCardSaid : Prop := Claim7.holds Tryz.pinned (.plain (OpenSpec.ofChange aggregateTextbookSpec)) aggregateTextbookCard

/-- THE TIED CARD OF 'joinlearnlaw11.AggregateGroups'. -/
def aggregateGroupsCard : Claim7 := { stood := { row := aggregateGroupsRow, standIns := [], harness := (true, "81fde61f37cd65bb6a40f76952d9499838a13ba392ded713e5da4320286c0123"), looks := true }, kinds := [], alts := [], laidByText := true, laidKinds := [.data, .data, .data, .data, .sentinel, .sentinel, .pinned, .pinned, .pinned, .pinned, .pinned, .pinned], laidTests := true, laidLooks := .later }
def AggregateGroupsCardSaid : Prop := Claim7.holds Tryz.pinned (.plain (OpenSpec.ofChange aggregateGroupsSpec)) aggregateGroupsCard

/-- THE SECOND FORM's CARD OF 'joinlearnlaw11.AggregateTextbook'. -/
def aggregateTextbookUptoCard : Claim7 := { stood := { row := aggregateTextbookUptoRow, standIns := [], harness := (true, "81fde61f37cd65bb6a40f76952d9499838a13ba392ded713e5da4320286c0123"), looks := true }, kinds := [], alts := [], laidByText := true, laidKinds := [.data, .data, .data, .sentinel, .sentinel], laidTests := true, laidLooks := .later }
def AggregateTextbookUptoCardSaid : Prop := Claim7.holds Tryz.pinned (.plain (OpenSpec.upto aggregateTextbookSpec)) aggregateTextbookUptoCard

/-- THE SECOND FORM's CARD OF 'joinlearnlaw11.AggregateGroups'. -/
def aggregateGroupsUptoCard : Claim7 := { stood := { row := aggregateGroupsUptoRow, standIns := [], harness := (true, "81fde61f37cd65bb6a40f76952d9499838a13ba392ded713e5da4320286c0123"), looks := true }, kinds := [], alts := [], laidByText := true, laidKinds := [.data, .data, .data, .data, .sentinel, .sentinel, .pinned, .pinned, .pinned, .pinned, .pinned, .pinned], laidTests := true, laidLooks := .later }
def AggregateGroupsUptoCardSaid : Prop := Claim7.holds Tryz.pinned (.plain (OpenSpec.upto aggregateGroupsSpec)) aggregateGroupsUptoCard
end Rows
end Go.Proofs.YtehkcnbodcdijaaGreatDoor
