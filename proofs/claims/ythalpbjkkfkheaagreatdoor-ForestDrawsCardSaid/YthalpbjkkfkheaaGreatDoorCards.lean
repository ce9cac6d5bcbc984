/-
  DERIVED. GIVEN WITH THE SEED: THE CARDS: each row of YthalpbjkkfkheaaGreatDoorRows.lean that lists a variable, with what it lists TIED to the program's text (the seventh form; the later family's looks); each row that meets fmt, with fmt's text TOLD by the authors' own Lean function (tested against real Go, not proved from fmt's source: count such statements apart). THE CARD IS WHAT COUNTS. Prove the row's statement (the work); the ties are given (YthalpbjkkfkheaaGreatDoorTie.lean); close each card by the builder's one call (the guide's Derived/Test/ToyasCard.lean, 'card_holds'). Laid BY PROGRAM, IN A SANDBOX (cutbox-door.mjs). By AI agents, Wed Nov 11 2026. No macro, syntax, notation, axiom, sorry.
-/
import Derived.Test.YthalpbjkkfkheaaGreatDoorRows
import GoSem.ClaimSeven
namespace Go.Proofs.YthalpbjkkfkheaaGreatDoor
namespace Rows

/-- THE TIED CARD OF 'joinlearnlaw26.ForestDraws'. -/
def forestDrawsCard : Claim7 := { stood := { row := forestDrawsRow, standIns := [], harness := (true, "0f291f5ea54131e9ef600269d9f369ee744819c7f5dad4cfd8b2cb4c9cdd2f85"), looks := true }, kinds := [], alts := [], laidByText := true, laidKinds := [.data, .data, .data, .sentinel, .sentinel], laidTests := true, laidLooks := .later }
def ForestDrawsCardSaid : Prop := Claim7.holds Tryz.pinned (.plain (OpenSpec.ofChange forestDrawsSpec)) forestDrawsCard

/-- THE SECOND FORM's CARD OF 'joinlearnlaw26.ForestDraws'. -/
def forestDrawsUptoCard : Claim7 := { stood := { row := forestDrawsUptoRow, standIns := [], harness := (true, "0f291f5ea54131e9ef600269d9f369ee744819c7f5dad4cfd8b2cb4c9cdd2f85"), looks := true }, kinds := [], alts := [], laidByText := true, laidKinds := [.data, .data, .data, .sentinel, .sentinel], laidTests := true, laidLooks := .later }
def ForestDrawsUptoCardSaid : Prop := Claim7.holds Tryz.pinned (.plain (OpenSpec.upto forestDrawsSpec)) forestDrawsUptoCard
end Rows
end Go.Proofs.YthalpbjkkfkheaaGreatDoor
