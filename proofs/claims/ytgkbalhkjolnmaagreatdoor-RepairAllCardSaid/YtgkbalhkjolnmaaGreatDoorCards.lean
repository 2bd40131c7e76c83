/-
  DERIVED. GIVEN WITH THE SEED: THE CARDS: each row of YtgkbalhkjolnmaaGreatDoorRows.lean that lists a variable, with what it lists TIED to the program's text (the seventh form; the later family's looks); each row that meets fmt, with fmt's text TOLD by the authors' own Lean function (tested against real Go, not proved from fmt's source: count such statements apart). THE CARD IS WHAT COUNTS. Prove the row's statement (the work); the ties are given (YtgkbalhkjolnmaaGreatDoorTie.lean); close each card by the builder's one call (the guide's Derived/Test/ToyasCard.lean, 'card_holds'). Laid BY PROGRAM, IN A SANDBOX (cutbox-door.mjs). By AI agents, Wed Nov 11 2026. No macro, syntax, notation, axiom, sorry.
-/
import Derived.Test.YtgkbalhkjolnmaaGreatDoorRows
import GoSem.ClaimSeven
namespace Go.Proofs.YtgkbalhkjolnmaaGreatDoor
namespace Rows

/-- THE TIED CARD OF 'forestaylaw.ClusterTells'. -/
def clusterTellsCard : Claim7 := { stood := { row := clusterTellsRow, standIns := [], harness := (true, "47ec1f6b7043ad3da870a74f3ee72240a920d153e7a9f7c17d18b59b20297181"), looks := false }, kinds := [], alts := [], laidByText := true, laidKinds := [.data, .data, .data], laidTests := true, laidLooks := .later }
def ClusterTellsCardSaid : Prop := Claim7.holds Tryz.pinned (.plain (OpenSpec.ofChange clusterTellsSpec)) clusterTellsCard

/-- THE TIED CARD OF 'forestaylaw.ClusterSafe'. -/
def clusterSafeCard : Claim7 := { stood := { row := clusterSafeRow, standIns := [], harness := (true, "47ec1f6b7043ad3da870a74f3ee72240a920d153e7a9f7c17d18b59b20297181"), looks := false }, kinds := [], alts := [], laidByText := true, laidKinds := [.data, .data, .data], laidTests := true, laidLooks := .later }
def ClusterSafeCardSaid : Prop := Claim7.holds Tryz.pinned (.plain (OpenSpec.ofChange clusterSafeSpec)) clusterSafeCard

/-- THE TIED CARD OF 'forestaylaw.ClusterBits'. -/
def clusterBitsCard : Claim7 := { stood := { row := clusterBitsRow, standIns := [], harness := (true, "47ec1f6b7043ad3da870a74f3ee72240a920d153e7a9f7c17d18b59b20297181"), looks := false }, kinds := [], alts := [], laidByText := true, laidKinds := [.data, .data, .data], laidTests := true, laidLooks := .later }
def ClusterBitsCardSaid : Prop := Claim7.holds Tryz.pinned (.plain (OpenSpec.ofChange clusterBitsSpec)) clusterBitsCard

/-- THE TIED CARD OF 'forestaylaw.RepairAll'. -/
def repairAllCard : Claim7 := { stood := { row := repairAllRow, standIns := [], harness := (true, "47ec1f6b7043ad3da870a74f3ee72240a920d153e7a9f7c17d18b59b20297181"), looks := false }, kinds := [], alts := [], laidByText := true, laidKinds := [.data, .data, .data], laidTests := true, laidLooks := .later }
def RepairAllCardSaid : Prop := Claim7.holds Tryz.pinned (.plain (OpenSpec.ofChange repairAllSpec)) repairAllCard

/-- THE TIED CARD OF 'forestaylaw.RestClusters'. -/
def restClustersCard : Claim7 := { stood := { row := restClustersRow, standIns := [], harness := (true, "47ec1f6b7043ad3da870a74f3ee72240a920d153e7a9f7c17d18b59b20297181"), looks := false }, kinds := [], alts := [], laidByText := true, laidKinds := [.data, .data, .data], laidTests := true, laidLooks := .later }
def RestClustersCardSaid : Prop := Claim7.holds Tryz.pinned (.plain (OpenSpec.ofChange restClustersSpec)) restClustersCard

/-- THE SECOND FORM's CARD OF 'forestaylaw.ClusterTells'. -/
def clusterTellsUptoCard : Claim7 := { stood := { row := clusterTellsUptoRow, standIns := [], harness := (true, "47ec1f6b7043ad3da870a74f3ee72240a920d153e7a9f7c17d18b59b20297181"), looks := false }, kinds := [], alts := [], laidByText := true, laidKinds := [.data, .data, .data], laidTests := true, laidLooks := .later }
def ClusterTellsUptoCardSaid : Prop := Claim7.holds Tryz.pinned (.plain (OpenSpec.upto clusterTellsSpec)) clusterTellsUptoCard

/-- THE SECOND FORM's CARD OF 'forestaylaw.ClusterSafe'. -/
def clusterSafeUptoCard : Claim7 := { stood := { row := clusterSafeUptoRow, standIns := [], harness := (true, "47ec1f6b7043ad3da870a74f3ee72240a920d153e7a9f7c17d18b59b20297181"), looks := false }, kinds := [], alts := [], laidByText := true, laidKinds := [.data, .data, .data], laidTests := true, laidLooks := .later }
def ClusterSafeUptoCardSaid : Prop := Claim7.holds Tryz.pinned (.plain (OpenSpec.upto clusterSafeSpec)) clusterSafeUptoCard

/-- THE SECOND FORM's CARD OF 'forestaylaw.ClusterBits'. -/
def clusterBitsUptoCard : Claim7 := { stood := { row := clusterBitsUptoRow, standIns := [], harness := (true, "47ec1f6b7043ad3da870a74f3ee72240a920d153e7a9f7c17d18b59b20297181"), looks := false }, kinds := [], alts := [], laidByText := true, laidKinds := [.data, .data, .data], laidTests := true, laidLooks := .later }
def ClusterBitsUptoCardSaid : Prop := Claim7.holds Tryz.pinned (.plain (OpenSpec.upto clusterBitsSpec)) clusterBitsUptoCard

/-- THE SECOND FORM's CARD OF 'forestaylaw.RepairAll'. -/
def repairAllUptoCard : Claim7 := { stood := { row := repairAllUptoRow, standIns := [], harness := (true, "47ec1f6b7043ad3da870a74f3ee72240a920d153e7a9f7c17d18b59b20297181"), looks := false }, kinds := [], alts := [], laidByText := true, laidKinds := [.data, .data, .data], laidTests := true, laidLooks := .later }
def RepairAllUptoCardSaid : Prop := Claim7.holds Tryz.pinned (.plain (OpenSpec.upto repairAllSpec)) repairAllUptoCard

/-- THE SECOND FORM's CARD OF 'forestaylaw.RestClusters'. -/
def restClustersUptoCard : Claim7 := { stood := { row := restClustersUptoRow, standIns := [], harness := (true, "47ec1f6b7043ad3da870a74f3ee72240a920d153e7a9f7c17d18b59b20297181"), looks := false }, kinds := [], alts := [], laidByText := true, laidKinds := [.data, .data, .data], laidTests := true, laidLooks := .later }
def RestClustersUptoCardSaid : Prop := Claim7.holds Tryz.pinned (.plain (OpenSpec.upto restClustersSpec)) restClustersUptoCard
end Rows
end Go.Proofs.YtgkbalhkjolnmaaGreatDoor
