/-
  DERIVED. GIVEN WITH THE SEED: THE CARDS: each row of YtemnoemjmeflbaaGreatDoorRows.lean that lists a variable, with what it lists TIED to the program's text (the seventh form; the later family's looks); each row that meets fmt, with fmt's text TOLD by the authors' own Lean function (tested against real Go, not proved from fmt's source: count such statements apart). THE CARD IS WHAT COUNTS. Prove the row's statement (the work); the ties are given (YtemnoemjmeflbaaGreatDoorTie.lean); close each card by the builder's one call (the guide's Derived/Test/ToyasCard.lean, 'card_holds'). Laid BY PROGRAM, IN A SANDBOX (cutbox-door.mjs). By AI agents, Wed Nov 11 2026. No macro, syntax, notation, axiom, sorry.
-/
import Derived.Test.YtemnoemjmeflbaaGreatDoorRows
import GoSem.ClaimSeven
namespace Go.Proofs.YtemnoemjmeflbaaGreatDoor
namespace Rows

/-- THE TIED CARD OF 'joinlearnlaw29.MachineTurns'. -/
def machineTurnsCard : Claim7 := { stood := { row := machineTurnsRow, standIns := [], harness := (true, "4f6e1a41b240c94ed4d6e9f643242fcc5584be8719f055b6eebaf13806a7149b"), looks := true }, kinds := [], alts := [], laidByText := true, laidKinds := [.data, .data, .data, .sentinel, .sentinel], laidTests := true, laidLooks := .later }
def MachineTurnsCardSaid : Prop := Claim7.holds Tryz.pinned (.plain (OpenSpec.ofChange machineTurnsSpec)) machineTurnsCard

/-- THE TIED CARD OF 'joinlearnlaw29.MachineLinear'. -/
def machineLinearCard : Claim7 := { stood := { row := machineLinearRow, standIns := [], harness := (true, "4f6e1a41b240c94ed4d6e9f643242fcc5584be8719f055b6eebaf13806a7149b"), looks := true }, kinds := [], alts := [], laidByText := true, laidKinds := [.data, .data, .data, .sentinel, .sentinel], laidTests := true, laidLooks := .later }
def MachineLinearCardSaid : Prop := Claim7.holds Tryz.pinned (.plain (OpenSpec.ofChange machineLinearSpec)) machineLinearCard

/-- THE TIED CARD OF 'joinlearnlaw29.MachineRounds'. -/
def machineRoundsCard : Claim7 := { stood := { row := machineRoundsRow, standIns := [], harness := (true, "4f6e1a41b240c94ed4d6e9f643242fcc5584be8719f055b6eebaf13806a7149b"), looks := true }, kinds := [], alts := [], laidByText := true, laidKinds := [.data, .data, .data, .sentinel, .sentinel], laidTests := true, laidLooks := .later }
def MachineRoundsCardSaid : Prop := Claim7.holds Tryz.pinned (.plain (OpenSpec.ofChange machineRoundsSpec)) machineRoundsCard

/-- THE SECOND FORM's CARD OF 'joinlearnlaw29.MachineTurns'. -/
def machineTurnsUptoCard : Claim7 := { stood := { row := machineTurnsUptoRow, standIns := [], harness := (true, "4f6e1a41b240c94ed4d6e9f643242fcc5584be8719f055b6eebaf13806a7149b"), looks := true }, kinds := [], alts := [], laidByText := true, laidKinds := [.data, .data, .data, .sentinel, .sentinel], laidTests := true, laidLooks := .later }
def MachineTurnsUptoCardSaid : Prop := Claim7.holds Tryz.pinned (.plain (OpenSpec.upto machineTurnsSpec)) machineTurnsUptoCard

/-- THE SECOND FORM's CARD OF 'joinlearnlaw29.MachineLinear'. -/
def machineLinearUptoCard : Claim7 := { stood := { row := machineLinearUptoRow, standIns := [], harness := (true, "4f6e1a41b240c94ed4d6e9f643242fcc5584be8719f055b6eebaf13806a7149b"), looks := true }, kinds := [], alts := [], laidByText := true, laidKinds := [.data, .data, .data, .sentinel, .sentinel], laidTests := true, laidLooks := .later }
def MachineLinearUptoCardSaid : Prop := Claim7.holds Tryz.pinned (.plain (OpenSpec.upto machineLinearSpec)) machineLinearUptoCard

/-- THE SECOND FORM's CARD OF 'joinlearnlaw29.MachineRounds'. -/
def machineRoundsUptoCard : Claim7 := { stood := { row := machineRoundsUptoRow, standIns := [], harness := (true, "4f6e1a41b240c94ed4d6e9f643242fcc5584be8719f055b6eebaf13806a7149b"), looks := true }, kinds := [], alts := [], laidByText := true, laidKinds := [.data, .data, .data, .sentinel, .sentinel], laidTests := true, laidLooks := .later }
def MachineRoundsUptoCardSaid : Prop := Claim7.holds Tryz.pinned (.plain (OpenSpec.upto machineRoundsSpec)) machineRoundsUptoCard
end Rows
end Go.Proofs.YtemnoemjmeflbaaGreatDoor
