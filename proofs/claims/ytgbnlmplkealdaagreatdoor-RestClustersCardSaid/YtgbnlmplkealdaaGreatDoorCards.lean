/-
  DERIVED. GIVEN WITH THE SEED: THE CARDS: each row of YtgbnlmplkealdaaGreatDoorRows.lean that lists a variable, with what it lists TIED to the program's text (the seventh form; the later family's looks); each row that meets fmt, with fmt's text TOLD by the authors' own Lean function (tested against real Go, not proved from fmt's source: count such statements apart). THE CARD IS WHAT COUNTS. Prove the row's statement (the work); the ties are given (YtgbnlmplkealdaaGreatDoorTie.lean); close each card by the builder's one call (the guide's Derived/Test/ToyasCard.lean, 'card_holds'). Laid BY PROGRAM, IN A SANDBOX (cutbox-door.mjs). By AI agents, Wed Nov 11 2026. No macro, syntax, notation, axiom, sorry.
-/
import Derived.Test.YtgbnlmplkealdaaGreatDoorRows
import GoSem.ClaimSeven
namespace Go.Proofs.YtgbnlmplkealdaaGreatDoor
namespace Rows

/-- THE TIED CARD OF 'forestaylaw.RestClusters'. -/
def restClustersCard : Claim7 := { stood := { row := restClustersRow, standIns := [], harness := (true, "496accb9a0c3d3716cf6ce6e51e843cb21a8ecda3d1eb709cfea7c7bb1c0e7b6"), looks := false }, kinds := [], alts := [], laidByText := true, laidKinds := [.data, .data, .data], laidTests := true, laidLooks := .later }
def RestClustersCardSaid : Prop := Claim7.holds Tryz.pinned (.plain (OpenSpec.ofChange restClustersSpec)) restClustersCard

/-- THE SECOND FORM's CARD OF 'forestaylaw.RestClusters'. -/
def restClustersUptoCard : Claim7 := { stood := { row := restClustersUptoRow, standIns := [], harness := (true, "496accb9a0c3d3716cf6ce6e51e843cb21a8ecda3d1eb709cfea7c7bb1c0e7b6"), looks := false }, kinds := [], alts := [], laidByText := true, laidKinds := [.data, .data, .data], laidTests := true, laidLooks := .later }
def RestClustersUptoCardSaid : Prop := Claim7.holds Tryz.pinned (.plain (OpenSpec.upto restClustersSpec)) restClustersUptoCard
end Rows
end Go.Proofs.YtgbnlmplkealdaaGreatDoor
