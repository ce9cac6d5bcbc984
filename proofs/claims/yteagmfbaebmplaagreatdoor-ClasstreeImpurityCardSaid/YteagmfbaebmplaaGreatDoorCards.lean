/-
  DERIVED. GIVEN WITH THE SEED: THE CARDS: each row of YteagmfbaebmplaaGreatDoorRows.lean that lists a variable, with what it lists TIED to the program's text (the seventh form; the later family's looks); each row that meets fmt, with fmt's text TOLD by the authors' own Lean function (tested against real Go, not proved from fmt's source: count such statements apart). THE CARD IS WHAT COUNTS. Prove the row's statement (the work); the ties are given (YteagmfbaebmplaaGreatDoorTie.lean); close each card by the builder's one call (the guide's Derived/Test/ToyasCard.lean, 'card_holds'). Laid BY PROGRAM, IN A SANDBOX (cutbox-door.mjs). By AI agents, Wed Nov 11 2026. No macro, syntax, notation, axiom, sorry.
-/
import Derived.Test.YteagmfbaebmplaaGreatDoorRows
import GoSem.ClaimSeven
namespace Go.Proofs.YteagmfbaebmplaaGreatDoor
namespace Rows

/-- THE TIED CARD OF 'joinlearnlaw25.ClasstreeScales'. -/
def classtreeScalesCard : Claim7 := { stood := { row := classtreeScalesRow, standIns := [], harness := (true, "c847b1db8c8b8bdd3442fda1eccf9e12ec5f69bf55e5a6d68797e70a333e14f9"), looks := true }, kinds := [], alts := [], laidByText := true, laidKinds := [.data, .data, .data, .sentinel, .sentinel], laidTests := true, laidLooks := .later }
def ClasstreeScalesCardSaid : Prop := Claim7.holds Tryz.pinned (.plain (OpenSpec.ofChange classtreeScalesSpec)) classtreeScalesCard

/-- THE TIED CARD OF 'joinlearnlaw25.ClasstreeImpurity'. -/
def classtreeImpurityCard : Claim7 := { stood := { row := classtreeImpurityRow, standIns := [], harness := (true, "c847b1db8c8b8bdd3442fda1eccf9e12ec5f69bf55e5a6d68797e70a333e14f9"), looks := true }, kinds := [], alts := [], laidByText := true, laidKinds := [.data, .data, .data, .sentinel, .sentinel], laidTests := true, laidLooks := .later }
def ClasstreeImpurityCardSaid : Prop := Claim7.holds Tryz.pinned (.plain (OpenSpec.ofChange classtreeImpuritySpec)) classtreeImpurityCard

/-- THE SECOND FORM's CARD OF 'joinlearnlaw25.ClasstreeScales'. -/
def classtreeScalesUptoCard : Claim7 := { stood := { row := classtreeScalesUptoRow, standIns := [], harness := (true, "c847b1db8c8b8bdd3442fda1eccf9e12ec5f69bf55e5a6d68797e70a333e14f9"), looks := true }, kinds := [], alts := [], laidByText := true, laidKinds := [.data, .data, .data, .sentinel, .sentinel], laidTests := true, laidLooks := .later }
def ClasstreeScalesUptoCardSaid : Prop := Claim7.holds Tryz.pinned (.plain (OpenSpec.upto classtreeScalesSpec)) classtreeScalesUptoCard

/-- THE SECOND FORM's CARD OF 'joinlearnlaw25.ClasstreeImpurity'. -/
def classtreeImpurityUptoCard : Claim7 := { stood := { row := classtreeImpurityUptoRow, standIns := [], harness := (true, "c847b1db8c8b8bdd3442fda1eccf9e12ec5f69bf55e5a6d68797e70a333e14f9"), looks := true }, kinds := [], alts := [], laidByText := true, laidKinds := [.data, .data, .data, .sentinel, .sentinel], laidTests := true, laidLooks := .later }
def ClasstreeImpurityUptoCardSaid : Prop := Claim7.holds Tryz.pinned (.plain (OpenSpec.upto classtreeImpuritySpec)) classtreeImpurityUptoCard
end Rows
end Go.Proofs.YteagmfbaebmplaaGreatDoor
