/-
  DERIVED. GIVEN WITH THE SEED: THE CARDS: each row of YtlfcicfebhjchaaGreatDoorRows.lean that lists a variable, with what it lists TIED to the program's text (the seventh form; the later family's looks); each row that meets fmt, with fmt's text TOLD by the authors' own Lean function (tested against real Go, not proved from fmt's source: count such statements apart). THE CARD IS WHAT COUNTS. Prove the row's statement (the work); the ties are given (YtlfcicfebhjchaaGreatDoorTie.lean); close each card by the builder's one call (the guide's Derived/Test/ToyasCard.lean, 'card_holds'). Laid BY PROGRAM, IN A SANDBOX (cutbox-door.mjs). By AI agents, Wed Nov 11 2026. No macro, syntax, notation, axiom, sorry.
-/
import Derived.Test.YtlfcicfebhjchaaGreatDoorRows
import GoSem.ClaimSeven
namespace Go.Proofs.YtlfcicfebhjchaaGreatDoor
namespace Rows

/-- THE TIED CARD OF 'joinlearnlaw28.ClusterScales'. -/
def clusterScalesCard : Claim7 := { stood := { row := clusterScalesRow, standIns := [], harness := (true, "7d676fbb4578f849fc617b5a4dc666675a5d027cb85fcfbb47954e91840fa297"), looks := true }, kinds := [], alts := [], laidByText := true, laidKinds := [.data, .data, .data, .sentinel, .sentinel], laidTests := true, laidLooks := .later }
def ClusterScalesCardSaid : Prop := Claim7.holds Tryz.pinned (.plain (OpenSpec.ofChange clusterScalesSpec)) clusterScalesCard

/-- THE TIED CARD OF 'joinlearnlaw28.ClusterOrder'. -/
def clusterOrderCard : Claim7 := { stood := { row := clusterOrderRow, standIns := [], harness := (true, "7d676fbb4578f849fc617b5a4dc666675a5d027cb85fcfbb47954e91840fa297"), looks := true }, kinds := [], alts := [], laidByText := true, laidKinds := [.data, .data, .data, .sentinel, .sentinel], laidTests := true, laidLooks := .later }
def ClusterOrderCardSaid : Prop := Claim7.holds Tryz.pinned (.plain (OpenSpec.ofChange clusterOrderSpec)) clusterOrderCard

/-- THE TIED CARD OF 'joinlearnlaw28.ClusterStarts'. -/
def clusterStartsCard : Claim7 := { stood := { row := clusterStartsRow, standIns := [], harness := (true, "7d676fbb4578f849fc617b5a4dc666675a5d027cb85fcfbb47954e91840fa297"), looks := true }, kinds := [], alts := [], laidByText := true, laidKinds := [.data, .data, .data, .sentinel, .sentinel], laidTests := true, laidLooks := .later }
def ClusterStartsCardSaid : Prop := Claim7.holds Tryz.pinned (.plain (OpenSpec.ofChange clusterStartsSpec)) clusterStartsCard

/-- THE TIED CARD OF 'joinlearnlaw28.ClusterMeans'. -/
def clusterMeansCard : Claim7 := { stood := { row := clusterMeansRow, standIns := [], harness := (true, "7d676fbb4578f849fc617b5a4dc666675a5d027cb85fcfbb47954e91840fa297"), looks := true }, kinds := [], alts := [], laidByText := true, laidKinds := [.data, .data, .data, .sentinel, .sentinel], laidTests := true, laidLooks := .later }
def ClusterMeansCardSaid : Prop := Claim7.holds Tryz.pinned (.plain (OpenSpec.ofChange clusterMeansSpec)) clusterMeansCard

/-- THE TIED CARD OF 'joinlearnlaw28.ClusterFalls'. -/
def clusterFallsCard : Claim7 := { stood := { row := clusterFallsRow, standIns := [], harness := (true, "7d676fbb4578f849fc617b5a4dc666675a5d027cb85fcfbb47954e91840fa297"), looks := true }, kinds := [], alts := [], laidByText := true, laidKinds := [.data, .data, .data, .sentinel, .sentinel], laidTests := true, laidLooks := .later }
def ClusterFallsCardSaid : Prop := Claim7.holds Tryz.pinned (.plain (OpenSpec.ofChange clusterFallsSpec)) clusterFallsCard

/-- THE SECOND FORM's CARD OF 'joinlearnlaw28.ClusterScales'. -/
def clusterScalesUptoCard : Claim7 := { stood := { row := clusterScalesUptoRow, standIns := [], harness := (true, "7d676fbb4578f849fc617b5a4dc666675a5d027cb85fcfbb47954e91840fa297"), looks := true }, kinds := [], alts := [], laidByText := true, laidKinds := [.data, .data, .data, .sentinel, .sentinel], laidTests := true, laidLooks := .later }
def ClusterScalesUptoCardSaid : Prop := Claim7.holds Tryz.pinned (.plain (OpenSpec.upto clusterScalesSpec)) clusterScalesUptoCard

/-- THE SECOND FORM's CARD OF 'joinlearnlaw28.ClusterOrder'. -/
def clusterOrderUptoCard : Claim7 := { stood := { row := clusterOrderUptoRow, standIns := [], harness := (true, "7d676fbb4578f849fc617b5a4dc666675a5d027cb85fcfbb47954e91840fa297"), looks := true }, kinds := [], alts := [], laidByText := true, laidKinds := [.data, .data, .data, .sentinel, .sentinel], laidTests := true, laidLooks := .later }
def ClusterOrderUptoCardSaid : Prop := Claim7.holds Tryz.pinned (.plain (OpenSpec.upto clusterOrderSpec)) clusterOrderUptoCard

/-- THE SECOND FORM's CARD OF 'joinlearnlaw28.ClusterStarts'. -/
def clusterStartsUptoCard : Claim7 := { stood := { row := clusterStartsUptoRow, standIns := [], harness := (true, "7d676fbb4578f849fc617b5a4dc666675a5d027cb85fcfbb47954e91840fa297"), looks := true }, kinds := [], alts := [], laidByText := true, laidKinds := [.data, .data, .data, .sentinel, .sentinel], laidTests := true, laidLooks := .later }
def ClusterStartsUptoCardSaid : Prop := Claim7.holds Tryz.pinned (.plain (OpenSpec.upto clusterStartsSpec)) clusterStartsUptoCard

/-- THE SECOND FORM's CARD OF 'joinlearnlaw28.ClusterMeans'. -/
def clusterMeansUptoCard : Claim7 := { stood := { row := clusterMeansUptoRow, standIns := [], harness := (true, "7d676fbb4578f849fc617b5a4dc666675a5d027cb85fcfbb47954e91840fa297"), looks := true }, kinds := [], alts := [], laidByText := true, laidKinds := [.data, .data, .data, .sentinel, .sentinel], laidTests := true, laidLooks := .later }
def ClusterMeansUptoCardSaid : Prop := Claim7.holds Tryz.pinned (.plain (OpenSpec.upto clusterMeansSpec)) clusterMeansUptoCard

/-- THE SECOND FORM's CARD OF 'joinlearnlaw28.ClusterFalls'. -/
def clusterFallsUptoCard : Claim7 := { stood := { row := clusterFallsUptoRow, standIns := [], harness := (true, "7d676fbb4578f849fc617b5a4dc666675a5d027cb85fcfbb47954e91840fa297"), looks := true }, kinds := [], alts := [], laidByText := true, laidKinds := [.data, .data, .data, .sentinel, .sentinel], laidTests := true, laidLooks := .later }
def ClusterFallsUptoCardSaid : Prop := Claim7.holds Tryz.pinned (.plain (OpenSpec.upto clusterFallsSpec)) clusterFallsUptoCard
end Rows
end Go.Proofs.YtlfcicfebhjchaaGreatDoor
