/-
  DERIVED. GIVEN WITH THE SEED: THE CARDS: each row of YtkhmfgkbobblmaaGreatDoorRows.lean that lists a variable, with what it lists TIED to the program's text (the seventh form; the later family's looks); each row that meets fmt, with fmt's text TOLD by the authors' own Lean function (tested against real Go, not proved from fmt's source: count such statements apart). THE CARD IS WHAT COUNTS. Prove the row's statement (the work); the ties are given (YtkhmfgkbobblmaaGreatDoorTie.lean); close each card by the builder's one call (the guide's Derived/Test/ToyasCard.lean, 'card_holds'). Laid BY PROGRAM, IN A SANDBOX (cutbox-door.mjs). By AI agents, Wed Nov 11 2026. No macro, syntax, notation, axiom, sorry.
-/
import Derived.Test.YtkhmfgkbobblmaaGreatDoorRows
import GoSem.ClaimSeven
namespace Go.Proofs.YtkhmfgkbobblmaaGreatDoor
namespace Rows

/-- THE TIED CARD OF 'joinlearnlaw27.CorepointShifts'. -/
def corepointShiftsCard : Claim7 := { stood := { row := corepointShiftsRow, standIns := [], harness := (true, "e4048a4f66d9b1d37789892176605263d6761a088ddd784cb6e4bb4020d54695"), looks := true }, kinds := [], alts := [], laidByText := true, laidKinds := [.data, .data, .data, .sentinel, .sentinel], laidTests := true, laidLooks := .later }
def CorepointShiftsCardSaid : Prop := Claim7.holds Tryz.pinned (.plain (OpenSpec.ofChange corepointShiftsSpec)) corepointShiftsCard

/-- THE TIED CARD OF 'joinlearnlaw27.CorepointGrids'. -/
def corepointGridsCard : Claim7 := { stood := { row := corepointGridsRow, standIns := [], harness := (true, "e4048a4f66d9b1d37789892176605263d6761a088ddd784cb6e4bb4020d54695"), looks := true }, kinds := [], alts := [], laidByText := true, laidKinds := [.data, .data, .data, .sentinel, .sentinel], laidTests := true, laidLooks := .later }
def CorepointGridsCardSaid : Prop := Claim7.holds Tryz.pinned (.plain (OpenSpec.ofChange corepointGridsSpec)) corepointGridsCard

/-- THE TIED CARD OF 'joinlearnlaw27.CorepointLine'. -/
def corepointLineCard : Claim7 := { stood := { row := corepointLineRow, standIns := [], harness := (true, "e4048a4f66d9b1d37789892176605263d6761a088ddd784cb6e4bb4020d54695"), looks := true }, kinds := [], alts := [], laidByText := true, laidKinds := [.data, .data, .data, .sentinel, .sentinel], laidTests := true, laidLooks := .later }
def CorepointLineCardSaid : Prop := Claim7.holds Tryz.pinned (.plain (OpenSpec.ofChange corepointLineSpec)) corepointLineCard

/-- THE TIED CARD OF 'joinlearnlaw27.CorepointNear'. -/
def corepointNearCard : Claim7 := { stood := { row := corepointNearRow, standIns := [], harness := (true, "e4048a4f66d9b1d37789892176605263d6761a088ddd784cb6e4bb4020d54695"), looks := true }, kinds := [], alts := [], laidByText := true, laidKinds := [.data, .data, .data, .sentinel, .sentinel], laidTests := true, laidLooks := .later }
def CorepointNearCardSaid : Prop := Claim7.holds Tryz.pinned (.plain (OpenSpec.ofChange corepointNearSpec)) corepointNearCard

/-- THE SECOND FORM's CARD OF 'joinlearnlaw27.CorepointShifts'. -/
def corepointShiftsUptoCard : Claim7 := { stood := { row := corepointShiftsUptoRow, standIns := [], harness := (true, "e4048a4f66d9b1d37789892176605263d6761a088ddd784cb6e4bb4020d54695"), looks := true }, kinds := [], alts := [], laidByText := true, laidKinds := [.data, .data, .data, .sentinel, .sentinel], laidTests := true, laidLooks := .later }
def CorepointShiftsUptoCardSaid : Prop := Claim7.holds Tryz.pinned (.plain (OpenSpec.upto corepointShiftsSpec)) corepointShiftsUptoCard

/-- THE SECOND FORM's CARD OF 'joinlearnlaw27.CorepointGrids'. -/
def corepointGridsUptoCard : Claim7 := { stood := { row := corepointGridsUptoRow, standIns := [], harness := (true, "e4048a4f66d9b1d37789892176605263d6761a088ddd784cb6e4bb4020d54695"), looks := true }, kinds := [], alts := [], laidByText := true, laidKinds := [.data, .data, .data, .sentinel, .sentinel], laidTests := true, laidLooks := .later }
def CorepointGridsUptoCardSaid : Prop := Claim7.holds Tryz.pinned (.plain (OpenSpec.upto corepointGridsSpec)) corepointGridsUptoCard

/-- THE SECOND FORM's CARD OF 'joinlearnlaw27.CorepointLine'. -/
def corepointLineUptoCard : Claim7 := { stood := { row := corepointLineUptoRow, standIns := [], harness := (true, "e4048a4f66d9b1d37789892176605263d6761a088ddd784cb6e4bb4020d54695"), looks := true }, kinds := [], alts := [], laidByText := true, laidKinds := [.data, .data, .data, .sentinel, .sentinel], laidTests := true, laidLooks := .later }
def CorepointLineUptoCardSaid : Prop := Claim7.holds Tryz.pinned (.plain (OpenSpec.upto corepointLineSpec)) corepointLineUptoCard

/-- THE SECOND FORM's CARD OF 'joinlearnlaw27.CorepointNear'. -/
def corepointNearUptoCard : Claim7 := { stood := { row := corepointNearUptoRow, standIns := [], harness := (true, "e4048a4f66d9b1d37789892176605263d6761a088ddd784cb6e4bb4020d54695"), looks := true }, kinds := [], alts := [], laidByText := true, laidKinds := [.data, .data, .data, .sentinel, .sentinel], laidTests := true, laidLooks := .later }
def CorepointNearUptoCardSaid : Prop := Claim7.holds Tryz.pinned (.plain (OpenSpec.upto corepointNearSpec)) corepointNearUptoCard
end Rows
end Go.Proofs.YtkhmfgkbobblmaaGreatDoor
