/-
  DERIVED. GIVEN WITH THE SEED: THE CARDS: each row of YtadbchhdjbghkaaGreatDoorRows.lean that lists a variable, with what it lists TIED to the program's text (the seventh form; the later family's looks); each row that meets fmt, with fmt's text TOLD by the authors' own Lean function (tested against real Go, not proved from fmt's source: count such statements apart). THE CARD IS WHAT COUNTS. Prove the row's statement (the work); the ties are given (YtadbchhdjbghkaaGreatDoorTie.lean); close each card by the builder's one call (the guide's Derived/Test/ToyasCard.lean, 'card_holds'). Laid BY PROGRAM, IN A SANDBOX (cutbox-door.mjs). By AI agents, Wed Nov 11 2026. No macro, syntax, notation, axiom, sorry.
-/
import Derived.Test.YtadbchhdjbghkaaGreatDoorRows
import GoSem.ClaimSeven
namespace Go.Proofs.YtadbchhdjbghkaaGreatDoor
namespace Rows

/-- THE TIED CARD OF 'joinlearnlaw11.AggregateSplits'. -/
def aggregateSplitsCard : Claim7 := { stood := { row := aggregateSplitsRow, standIns := [], harness := (true, "9579ed6d25acdfacf9196eb122a53d1451e0e92194beb3c185e117ff6f264db3"), looks := true }, kinds := [], alts := [], laidByText := true, laidKinds := [.data, .data, .data, .sentinel, .sentinel], laidTests := true, laidLooks := .later }
def AggregateSplitsCardSaid : Prop := Claim7.holds Tryz.pinned (.plain (OpenSpec.ofChange aggregateSplitsSpec)) aggregateSplitsCard

/-- THE SECOND FORM's CARD OF 'joinlearnlaw11.AggregateSplits'. -/
def aggregateSplitsUptoCard : Claim7 := { stood := { row := aggregateSplitsUptoRow, standIns := [], harness := (true, "9579ed6d25acdfacf9196eb122a53d1451e0e92194beb3c185e117ff6f264db3"), looks := true }, kinds := [], alts := [], laidByText := true, laidKinds := [.data, .data, .data, .sentinel, .sentinel], laidTests := true, laidLooks := .later }
def AggregateSplitsUptoCardSaid : Prop := Claim7.holds Tryz.pinned (.plain (OpenSpec.upto aggregateSplitsSpec)) aggregateSplitsUptoCard
end Rows
end Go.Proofs.YtadbchhdjbghkaaGreatDoor
