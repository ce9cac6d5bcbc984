/-
  DERIVED. GIVEN WITH THE SEED: THE CARDS: each row of YthalpbjkkfkheaaDoorRows.lean that lists a variable, with what it lists TIED to the program's text (the seventh form; the later family's looks); each row that meets fmt, with fmt's text TOLD by the authors' own Lean function (tested against real Go, not proved from fmt's source: count such statements apart). THE CARD IS WHAT COUNTS. Prove the row's statement (the work); the ties are given (YthalpbjkkfkheaaDoorTie.lean); close each card by the builder's one call (the guide's Derived/Test/ToyasCard.lean, 'card_holds'). Laid BY PROGRAM, IN A SANDBOX (cutbox-door.mjs). By AI agents, Wed Nov 11 2026. No macro, syntax, notation, axiom, sorry.
-/
import Derived.Test.YthalpbjkkfkheaaDoorRows
import GoSem.ClaimSeven
namespace Go.Proofs.YthalpbjkkfkheaaDoor
namespace Rows

/-- THE TIED CARD OF 'joinlearnlaw26.ForestPicks'. -/
def forestPicksCard : Claim7 := { stood := { row := forestPicksRow, standIns := [], harness := (true, "69cb10296b006c47656ecd5cfe2e18b1827a79f7f67c625a1f193abc53fe49d9"), looks := false }, kinds := [], alts := [], laidByText := true, laidKinds := [.data, .data, .data], laidTests := true, laidLooks := .later }
def ForestPicksCardSaid : Prop := Claim7.holds Tryd.pinned (.plain (OpenSpec.ofChange forestPicksSpec)) forestPicksCard

/-- THE SECOND FORM's CARD OF 'joinlearnlaw26.ForestPicks'. -/
def forestPicksUptoCard : Claim7 := { stood := { row := forestPicksUptoRow, standIns := [], harness := (true, "69cb10296b006c47656ecd5cfe2e18b1827a79f7f67c625a1f193abc53fe49d9"), looks := false }, kinds := [], alts := [], laidByText := true, laidKinds := [.data, .data, .data], laidTests := true, laidLooks := .later }
def ForestPicksUptoCardSaid : Prop := Claim7.holds Tryd.pinned (.plain (OpenSpec.upto forestPicksSpec)) forestPicksUptoCard
end Rows
end Go.Proofs.YthalpbjkkfkheaaDoor
