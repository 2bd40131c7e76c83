/-
  DERIVED. GIVEN WITH THE SEED: THE CARDS: each row of YtdhoodloklgokaaGreatDoorRows.lean that lists a variable, with what it lists TIED to the program's text (the seventh form; the later family's looks); each row that meets fmt, with fmt's text TOLD by the authors' own Lean function (tested against real Go, not proved from fmt's source: count such statements apart). THE CARD IS WHAT COUNTS. Prove the row's statement (the work); the ties are given (YtdhoodloklgokaaGreatDoorTie.lean); close each card by the builder's one call (the guide's Derived/Test/ToyasCard.lean, 'card_holds'). Laid BY PROGRAM, IN A SANDBOX (cutbox-door.mjs). By AI agents, Wed Nov 11 2026. No macro, syntax, notation, axiom, sorry.
-/
import Derived.Test.YtdhoodloklgokaaGreatDoorRows
import GoSem.ClaimSeven
namespace Go.Proofs.YtdhoodloklgokaaGreatDoor
namespace Rows

/-- THE TIED CARD OF 'forestaylaw.RestStores'. -/
def restStoresCard : Claim7 := { stood := { row := restStoresRow, standIns := [], harness := (true, "1e0e397f3f5be4dbaa35dceb0492cb8609103323f1cb1bc4cf7b8d69a414e4af"), looks := true }, kinds := [], alts := [], laidByText := true, laidKinds := [.data, .data, .data], laidTests := true, laidLooks := .later }
def RestStoresCardSaid : Prop := Claim7.holds Tryz.pinned (.plain (OpenSpec.ofChange restStoresSpec)) restStoresCard

/-- THE TIED CARD OF 'forestaylaw.VoteTells'. -/
def voteTellsCard : Claim7 := { stood := { row := voteTellsRow, standIns := [], harness := (true, "1e0e397f3f5be4dbaa35dceb0492cb8609103323f1cb1bc4cf7b8d69a414e4af"), looks := true }, kinds := [], alts := [], laidByText := true, laidKinds := [.data, .data, .data], laidTests := true, laidLooks := .later }
def VoteTellsCardSaid : Prop := Claim7.holds Tryz.pinned (.plain (OpenSpec.ofChange voteTellsSpec)) voteTellsCard

/-- THE TIED CARD OF 'forestaylaw.VoteOne'. -/
def voteOneCard : Claim7 := { stood := { row := voteOneRow, standIns := [], harness := (true, "1e0e397f3f5be4dbaa35dceb0492cb8609103323f1cb1bc4cf7b8d69a414e4af"), looks := true }, kinds := [], alts := [], laidByText := true, laidKinds := [.data, .data, .data], laidTests := true, laidLooks := .later }
def VoteOneCardSaid : Prop := Claim7.holds Tryz.pinned (.plain (OpenSpec.ofChange voteOneSpec)) voteOneCard

/-- THE TIED CARD OF 'forestaylaw.ReplicaTells'. -/
def replicaTellsCard : Claim7 := { stood := { row := replicaTellsRow, standIns := [], harness := (true, "1e0e397f3f5be4dbaa35dceb0492cb8609103323f1cb1bc4cf7b8d69a414e4af"), looks := true }, kinds := [], alts := [], laidByText := true, laidKinds := [.data, .data, .data], laidTests := true, laidLooks := .later }
def ReplicaTellsCardSaid : Prop := Claim7.holds Tryz.pinned (.plain (OpenSpec.ofChange replicaTellsSpec)) replicaTellsCard

/-- THE TIED CARD OF 'forestaylaw.ReplicaApart'. -/
def replicaApartCard : Claim7 := { stood := { row := replicaApartRow, standIns := [], harness := (true, "1e0e397f3f5be4dbaa35dceb0492cb8609103323f1cb1bc4cf7b8d69a414e4af"), looks := true }, kinds := [], alts := [], laidByText := true, laidKinds := [.data, .data, .data], laidTests := true, laidLooks := .later }
def ReplicaApartCardSaid : Prop := Claim7.holds Tryz.pinned (.plain (OpenSpec.ofChange replicaApartSpec)) replicaApartCard

/-- THE TIED CARD OF 'forestaylaw.ClusterTells'. -/
def clusterTellsCard : Claim7 := { stood := { row := clusterTellsRow, standIns := [], harness := (true, "1e0e397f3f5be4dbaa35dceb0492cb8609103323f1cb1bc4cf7b8d69a414e4af"), looks := true }, kinds := [], alts := [], laidByText := true, laidKinds := [.data, .data, .data], laidTests := true, laidLooks := .later }
def ClusterTellsCardSaid : Prop := Claim7.holds Tryz.pinned (.plain (OpenSpec.ofChange clusterTellsSpec)) clusterTellsCard

/-- THE TIED CARD OF 'forestaylaw.ClusterSafe'. -/
def clusterSafeCard : Claim7 := { stood := { row := clusterSafeRow, standIns := [], harness := (true, "1e0e397f3f5be4dbaa35dceb0492cb8609103323f1cb1bc4cf7b8d69a414e4af"), looks := true }, kinds := [], alts := [], laidByText := true, laidKinds := [.data, .data, .data], laidTests := true, laidLooks := .later }
def ClusterSafeCardSaid : Prop := Claim7.holds Tryz.pinned (.plain (OpenSpec.ofChange clusterSafeSpec)) clusterSafeCard

/-- THE TIED CARD OF 'forestaylaw.ClusterBits'. -/
def clusterBitsCard : Claim7 := { stood := { row := clusterBitsRow, standIns := [], harness := (true, "1e0e397f3f5be4dbaa35dceb0492cb8609103323f1cb1bc4cf7b8d69a414e4af"), looks := true }, kinds := [], alts := [], laidByText := true, laidKinds := [.data, .data, .data], laidTests := true, laidLooks := .later }
def ClusterBitsCardSaid : Prop := Claim7.holds Tryz.pinned (.plain (OpenSpec.ofChange clusterBitsSpec)) clusterBitsCard

/-- THE TIED CARD OF 'forestaylaw.RepairAll'. -/
def repairAllCard : Claim7 := { stood := { row := repairAllRow, standIns := [], harness := (true, "1e0e397f3f5be4dbaa35dceb0492cb8609103323f1cb1bc4cf7b8d69a414e4af"), looks := true }, kinds := [], alts := [], laidByText := true, laidKinds := [.data, .data, .data], laidTests := true, laidLooks := .later }
def RepairAllCardSaid : Prop := Claim7.holds Tryz.pinned (.plain (OpenSpec.ofChange repairAllSpec)) repairAllCard

/-- THE TIED CARD OF 'forestaylaw.DeskTells'. -/
def deskTellsCard : Claim7 := { stood := { row := deskTellsRow, standIns := [], harness := (true, "1e0e397f3f5be4dbaa35dceb0492cb8609103323f1cb1bc4cf7b8d69a414e4af"), looks := true }, kinds := [], alts := [], laidByText := true, laidKinds := [.data, .data, .data], laidTests := true, laidLooks := .later }
def DeskTellsCardSaid : Prop := Claim7.holds Tryz.pinned (.plain (OpenSpec.ofChange deskTellsSpec)) deskTellsCard

/-- THE TIED CARD OF 'forestaylaw.DeskRuns'. -/
def deskRunsCard : Claim7 := { stood := { row := deskRunsRow, standIns := [], harness := (true, "1e0e397f3f5be4dbaa35dceb0492cb8609103323f1cb1bc4cf7b8d69a414e4af"), looks := true }, kinds := [], alts := [], laidByText := true, laidKinds := [.data, .data, .data], laidTests := true, laidLooks := .later }
def DeskRunsCardSaid : Prop := Claim7.holds Tryz.pinned (.plain (OpenSpec.ofChange deskRunsSpec)) deskRunsCard

/-- THE TIED CARD OF 'forestaylaw.DeskStays'. -/
def deskStaysCard : Claim7 := { stood := { row := deskStaysRow, standIns := [], harness := (true, "1e0e397f3f5be4dbaa35dceb0492cb8609103323f1cb1bc4cf7b8d69a414e4af"), looks := true }, kinds := [], alts := [], laidByText := true, laidKinds := [.data, .data, .data], laidTests := true, laidLooks := .later }
def DeskStaysCardSaid : Prop := Claim7.holds Tryz.pinned (.plain (OpenSpec.ofChange deskStaysSpec)) deskStaysCard

/-- THE TIED CARD OF 'forestaylaw.RestClusters'. -/
def restClustersCard : Claim7 := { stood := { row := restClustersRow, standIns := [], harness := (true, "1e0e397f3f5be4dbaa35dceb0492cb8609103323f1cb1bc4cf7b8d69a414e4af"), looks := true }, kinds := [], alts := [], laidByText := true, laidKinds := [.data, .data, .data], laidTests := true, laidLooks := .later }
def RestClustersCardSaid : Prop := Claim7.holds Tryz.pinned (.plain (OpenSpec.ofChange restClustersSpec)) restClustersCard

/-- THE TIED CARD OF 'forestaylaw.VoteSame'. -/
def voteSameCard : Claim7 := { stood := { row := voteSameRow, standIns := [], harness := (true, "1e0e397f3f5be4dbaa35dceb0492cb8609103323f1cb1bc4cf7b8d69a414e4af"), looks := true }, kinds := [], alts := [], laidByText := true, laidKinds := [.data, .data, .data], laidTests := true, laidLooks := .later }
def VoteSameCardSaid : Prop := Claim7.holds Tryz.pinned (.plain (OpenSpec.ofChange voteSameSpec)) voteSameCard

/-- THE TIED CARD OF 'forestaylaw.ReplicaSteps'. -/
def replicaStepsCard : Claim7 := { stood := { row := replicaStepsRow, standIns := [], harness := (true, "1e0e397f3f5be4dbaa35dceb0492cb8609103323f1cb1bc4cf7b8d69a414e4af"), looks := true }, kinds := [], alts := [], laidByText := true, laidKinds := [.data, .data, .data], laidTests := true, laidLooks := .later }
def ReplicaStepsCardSaid : Prop := Claim7.holds Tryz.pinned (.plain (OpenSpec.ofChange replicaStepsSpec)) replicaStepsCard

/-- THE SECOND FORM's CARD OF 'forestaylaw.RestStores'. -/
def restStoresUptoCard : Claim7 := { stood := { row := restStoresUptoRow, standIns := [], harness := (true, "1e0e397f3f5be4dbaa35dceb0492cb8609103323f1cb1bc4cf7b8d69a414e4af"), looks := true }, kinds := [], alts := [], laidByText := true, laidKinds := [.data, .data, .data], laidTests := true, laidLooks := .later }
def RestStoresUptoCardSaid : Prop := Claim7.holds Tryz.pinned (.plain (OpenSpec.upto restStoresSpec)) restStoresUptoCard

/-- THE SECOND FORM's CARD OF 'forestaylaw.VoteTells'. -/
def voteTellsUptoCard : Claim7 := { stood := { row := voteTellsUptoRow, standIns := [], harness := (true, "1e0e397f3f5be4dbaa35dceb0492cb8609103323f1cb1bc4cf7b8d69a414e4af"), looks := true }, kinds := [], alts := [], laidByText := true, laidKinds := [.data, .data, .data], laidTests := true, laidLooks := .later }
def VoteTellsUptoCardSaid : Prop := Claim7.holds Tryz.pinned (.plain (OpenSpec.upto voteTellsSpec)) voteTellsUptoCard

/-- THE SECOND FORM's CARD OF 'forestaylaw.VoteOne'. -/
def voteOneUptoCard : Claim7 := { stood := { row := voteOneUptoRow, standIns := [], harness := (true, "1e0e397f3f5be4dbaa35dceb0492cb8609103323f1cb1bc4cf7b8d69a414e4af"), looks := true }, kinds := [], alts := [], laidByText := true, laidKinds := [.data, .data, .data], laidTests := true, laidLooks := .later }
def VoteOneUptoCardSaid : Prop := Claim7.holds Tryz.pinned (.plain (OpenSpec.upto voteOneSpec)) voteOneUptoCard

/-- THE SECOND FORM's CARD OF 'forestaylaw.ReplicaTells'. -/
def replicaTellsUptoCard : Claim7 := { stood := { row := replicaTellsUptoRow, standIns := [], harness := (true, "1e0e397f3f5be4dbaa35dceb0492cb8609103323f1cb1bc4cf7b8d69a414e4af"), looks := true }, kinds := [], alts := [], laidByText := true, laidKinds := [.data, .data, .data], laidTests := true, laidLooks := .later }
def ReplicaTellsUptoCardSaid : Prop := Claim7.holds Tryz.pinned (.plain (OpenSpec.upto replicaTellsSpec)) replicaTellsUptoCard

/-- THE SECOND FORM's CARD OF 'forestaylaw.ReplicaApart'. -/
def replicaApartUptoCard : Claim7 := { stood := { row := replicaApartUptoRow, standIns := [], harness := (true, "1e0e397f3f5be4dbaa35dceb0492cb8609103323f1cb1bc4cf7b8d69a414e4af"), looks := true }, kinds := [], alts := [], laidByText := true, laidKinds := [.data, .data, .data], laidTests := true, laidLooks := .later }
def ReplicaApartUptoCardSaid : Prop := Claim7.holds Tryz.pinned (.plain (OpenSpec.upto replicaApartSpec)) replicaApartUptoCard

/-- THE SECOND FORM's CARD OF 'forestaylaw.ClusterTells'. -/
def clusterTellsUptoCard : Claim7 := { stood := { row := clusterTellsUptoRow, standIns := [], harness := (true, "1e0e397f3f5be4dbaa35dceb0492cb8609103323f1cb1bc4cf7b8d69a414e4af"), looks := true }, kinds := [], alts := [], laidByText := true, laidKinds := [.data, .data, .data], laidTests := true, laidLooks := .later }
def ClusterTellsUptoCardSaid : Prop := Claim7.holds Tryz.pinned (.plain (OpenSpec.upto clusterTellsSpec)) clusterTellsUptoCard

/-- THE SECOND FORM's CARD OF 'forestaylaw.ClusterSafe'. -/
def clusterSafeUptoCard : Claim7 := { stood := { row := clusterSafeUptoRow, standIns := [], harness := (true, "1e0e397f3f5be4dbaa35dceb0492cb8609103323f1cb1bc4cf7b8d69a414e4af"), looks := true }, kinds := [], alts := [], laidByText := true, laidKinds := [.data, .data, .data], laidTests := true, laidLooks := .later }
def ClusterSafeUptoCardSaid : Prop := Claim7.holds Tryz.pinned (.plain (OpenSpec.upto clusterSafeSpec)) clusterSafeUptoCard

/-- THE SECOND FORM's CARD OF 'forestaylaw.ClusterBits'. -/
def clusterBitsUptoCard : Claim7 := { stood := { row := clusterBitsUptoRow, standIns := [], harness := (true, "1e0e397f3f5be4dbaa35dceb0492cb8609103323f1cb1bc4cf7b8d69a414e4af"), looks := true }, kinds := [], alts := [], laidByText := true, laidKinds := [.data, .data, .data], laidTests := true, laidLooks := .later }
def ClusterBitsUptoCardSaid : Prop := Claim7.holds Tryz.pinned (.plain (OpenSpec.upto clusterBitsSpec)) clusterBitsUptoCard

/-- THE SECOND FORM's CARD OF 'forestaylaw.RepairAll'. -/
def repairAllUptoCard : Claim7 := { stood := { row := repairAllUptoRow, standIns := [], harness := (true, "1e0e397f3f5be4dbaa35dceb0492cb8609103323f1cb1bc4cf7b8d69a414e4af"), looks := true }, kinds := [], alts := [], laidByText := true, laidKinds := [.data, .data, .data], laidTests := true, laidLooks := .later }
def RepairAllUptoCardSaid : Prop := Claim7.holds Tryz.pinned (.plain (OpenSpec.upto repairAllSpec)) repairAllUptoCard

/-- THE SECOND FORM's CARD OF 'forestaylaw.DeskTells'. -/
def deskTellsUptoCard : Claim7 := { stood := { row := deskTellsUptoRow, standIns := [], harness := (true, "1e0e397f3f5be4dbaa35dceb0492cb8609103323f1cb1bc4cf7b8d69a414e4af"), looks := true }, kinds := [], alts := [], laidByText := true, laidKinds := [.data, .data, .data], laidTests := true, laidLooks := .later }
def DeskTellsUptoCardSaid : Prop := Claim7.holds Tryz.pinned (.plain (OpenSpec.upto deskTellsSpec)) deskTellsUptoCard

/-- THE SECOND FORM's CARD OF 'forestaylaw.DeskRuns'. -/
def deskRunsUptoCard : Claim7 := { stood := { row := deskRunsUptoRow, standIns := [], harness := (true, "1e0e397f3f5be4dbaa35dceb0492cb8609103323f1cb1bc4cf7b8d69a414e4af"), looks := true }, kinds := [], alts := [], laidByText := true, laidKinds := [.data, .data, .data], laidTests := true, laidLooks := .later }
def DeskRunsUptoCardSaid : Prop := Claim7.holds Tryz.pinned (.plain (OpenSpec.upto deskRunsSpec)) deskRunsUptoCard

/-- THE SECOND FORM's CARD OF 'forestaylaw.DeskStays'. -/
def deskStaysUptoCard : Claim7 := { stood := { row := deskStaysUptoRow, standIns := [], harness := (true, "1e0e397f3f5be4dbaa35dceb0492cb8609103323f1cb1bc4cf7b8d69a414e4af"), looks := true }, kinds := [], alts := [], laidByText := true, laidKinds := [.data, .data, .data], laidTests := true, laidLooks := .later }
def DeskStaysUptoCardSaid : Prop := Claim7.holds Tryz.pinned (.plain (OpenSpec.upto deskStaysSpec)) deskStaysUptoCard

/-- THE SECOND FORM's CARD OF 'forestaylaw.RestClusters'. -/
def restClustersUptoCard : Claim7 := { stood := { row := restClustersUptoRow, standIns := [], harness := (true, "1e0e397f3f5be4dbaa35dceb0492cb8609103323f1cb1bc4cf7b8d69a414e4af"), looks := true }, kinds := [], alts := [], laidByText := true, laidKinds := [.data, .data, .data], laidTests := true, laidLooks := .later }
def RestClustersUptoCardSaid : Prop := Claim7.holds Tryz.pinned (.plain (OpenSpec.upto restClustersSpec)) restClustersUptoCard

/-- THE SECOND FORM's CARD OF 'forestaylaw.VoteSame'. -/
def voteSameUptoCard : Claim7 := { stood := { row := voteSameUptoRow, standIns := [], harness := (true, "1e0e397f3f5be4dbaa35dceb0492cb8609103323f1cb1bc4cf7b8d69a414e4af"), looks := true }, kinds := [], alts := [], laidByText := true, laidKinds := [.data, .data, .data], laidTests := true, laidLooks := .later }
def VoteSameUptoCardSaid : Prop := Claim7.holds Tryz.pinned (.plain (OpenSpec.upto voteSameSpec)) voteSameUptoCard

/-- THE SECOND FORM's CARD OF 'forestaylaw.ReplicaSteps'. -/
def replicaStepsUptoCard : Claim7 := { stood := { row := replicaStepsUptoRow, standIns := [], harness := (true, "1e0e397f3f5be4dbaa35dceb0492cb8609103323f1cb1bc4cf7b8d69a414e4af"), looks := true }, kinds := [], alts := [], laidByText := true, laidKinds := [.data, .data, .data], laidTests := true, laidLooks := .later }
def ReplicaStepsUptoCardSaid : Prop := Claim7.holds Tryz.pinned (.plain (OpenSpec.upto replicaStepsSpec)) replicaStepsUptoCard
end Rows
end Go.Proofs.YtdhoodloklgokaaGreatDoor
