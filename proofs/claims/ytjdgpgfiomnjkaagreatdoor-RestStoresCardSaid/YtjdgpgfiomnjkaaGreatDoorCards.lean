/-
  DERIVED. GIVEN WITH THE SEED: THE CARDS: each row of YtjdgpgfiomnjkaaGreatDoorRows.lean that lists a variable, with what it lists TIED to the program's text (the seventh form; the later family's looks); each row that meets fmt, with fmt's text TOLD by the authors' own Lean function (tested against real Go, not proved from fmt's source: count such statements apart). THE CARD IS WHAT COUNTS. Prove the row's statement (the work); the ties are given (YtjdgpgfiomnjkaaGreatDoorTie.lean); close each card by the builder's one call (the guide's Derived/Test/ToyasCard.lean, 'card_holds'). Laid BY PROGRAM, IN A SANDBOX (cutbox-door.mjs). By AI agents, Wed Nov 11 2026. No macro, syntax, notation, axiom, sorry.
-/
import Derived.Test.YtjdgpgfiomnjkaaGreatDoorRows
import GoSem.ClaimSeven
namespace Go.Proofs.YtjdgpgfiomnjkaaGreatDoor
namespace Rows

/-- THE TIED CARD OF 'forestaylaw.RestStores'. -/
def restStoresCard : Claim7 := { stood := { row := restStoresRow, standIns := [], harness := (true, "21d9cb3fcc2932cb0e71b1891e5573aa2b95bf5149f578181dc6aba6a465b66e"), looks := true }, kinds := [], alts := [], laidByText := true, laidKinds := [.data, .data, .data], laidTests := true, laidLooks := .later }
def RestStoresCardSaid : Prop := Claim7.holds Tryz.pinned (.plain (OpenSpec.ofChange restStoresSpec)) restStoresCard

/-- THE TIED CARD OF 'forestaylaw.DeskTells'. -/
def deskTellsCard : Claim7 := { stood := { row := deskTellsRow, standIns := [], harness := (true, "21d9cb3fcc2932cb0e71b1891e5573aa2b95bf5149f578181dc6aba6a465b66e"), looks := true }, kinds := [], alts := [], laidByText := true, laidKinds := [.data, .data, .data], laidTests := true, laidLooks := .later }
def DeskTellsCardSaid : Prop := Claim7.holds Tryz.pinned (.plain (OpenSpec.ofChange deskTellsSpec)) deskTellsCard

/-- THE TIED CARD OF 'forestaylaw.DeskRuns'. -/
def deskRunsCard : Claim7 := { stood := { row := deskRunsRow, standIns := [], harness := (true, "21d9cb3fcc2932cb0e71b1891e5573aa2b95bf5149f578181dc6aba6a465b66e"), looks := true }, kinds := [], alts := [], laidByText := true, laidKinds := [.data, .data, .data], laidTests := true, laidLooks := .later }
def DeskRunsCardSaid : Prop := Claim7.holds Tryz.pinned (.plain (OpenSpec.ofChange deskRunsSpec)) deskRunsCard

/-- THE TIED CARD OF 'forestaylaw.DeskStays'. -/
def deskStaysCard : Claim7 := { stood := { row := deskStaysRow, standIns := [], harness := (true, "21d9cb3fcc2932cb0e71b1891e5573aa2b95bf5149f578181dc6aba6a465b66e"), looks := true }, kinds := [], alts := [], laidByText := true, laidKinds := [.data, .data, .data], laidTests := true, laidLooks := .later }
def DeskStaysCardSaid : Prop := Claim7.holds Tryz.pinned (.plain (OpenSpec.ofChange deskStaysSpec)) deskStaysCard

/-- THE TIED CARD OF 'forestaylaw.RestClusters'. -/
def restClustersCard : Claim7 := { stood := { row := restClustersRow, standIns := [], harness := (true, "21d9cb3fcc2932cb0e71b1891e5573aa2b95bf5149f578181dc6aba6a465b66e"), looks := true }, kinds := [], alts := [], laidByText := true, laidKinds := [.data, .data, .data], laidTests := true, laidLooks := .later }
def RestClustersCardSaid : Prop := Claim7.holds Tryz.pinned (.plain (OpenSpec.ofChange restClustersSpec)) restClustersCard

/-- THE SECOND FORM's CARD OF 'forestaylaw.RestStores'. -/
def restStoresUptoCard : Claim7 := { stood := { row := restStoresUptoRow, standIns := [], harness := (true, "21d9cb3fcc2932cb0e71b1891e5573aa2b95bf5149f578181dc6aba6a465b66e"), looks := true }, kinds := [], alts := [], laidByText := true, laidKinds := [.data, .data, .data], laidTests := true, laidLooks := .later }
def RestStoresUptoCardSaid : Prop := Claim7.holds Tryz.pinned (.plain (OpenSpec.upto restStoresSpec)) restStoresUptoCard

/-- THE SECOND FORM's CARD OF 'forestaylaw.DeskTells'. -/
def deskTellsUptoCard : Claim7 := { stood := { row := deskTellsUptoRow, standIns := [], harness := (true, "21d9cb3fcc2932cb0e71b1891e5573aa2b95bf5149f578181dc6aba6a465b66e"), looks := true }, kinds := [], alts := [], laidByText := true, laidKinds := [.data, .data, .data], laidTests := true, laidLooks := .later }
def DeskTellsUptoCardSaid : Prop := Claim7.holds Tryz.pinned (.plain (OpenSpec.upto deskTellsSpec)) deskTellsUptoCard

/-- THE SECOND FORM's CARD OF 'forestaylaw.DeskRuns'. -/
def deskRunsUptoCard : Claim7 := { stood := { row := deskRunsUptoRow, standIns := [], harness := (true, "21d9cb3fcc2932cb0e71b1891e5573aa2b95bf5149f578181dc6aba6a465b66e"), looks := true }, kinds := [], alts := [], laidByText := true, laidKinds := [.data, .data, .data], laidTests := true, laidLooks := .later }
def DeskRunsUptoCardSaid : Prop := Claim7.holds Tryz.pinned (.plain (OpenSpec.upto deskRunsSpec)) deskRunsUptoCard

/-- THE SECOND FORM's CARD OF 'forestaylaw.DeskStays'. -/
def deskStaysUptoCard : Claim7 := { stood := { row := deskStaysUptoRow, standIns := [], harness := (true, "21d9cb3fcc2932cb0e71b1891e5573aa2b95bf5149f578181dc6aba6a465b66e"), looks := true }, kinds := [], alts := [], laidByText := true, laidKinds := [.data, .data, .data], laidTests := true, laidLooks := .later }
def DeskStaysUptoCardSaid : Prop := Claim7.holds Tryz.pinned (.plain (OpenSpec.upto deskStaysSpec)) deskStaysUptoCard

/-- THE SECOND FORM's CARD OF 'forestaylaw.RestClusters'. -/
def restClustersUptoCard : Claim7 := { stood := { row := restClustersUptoRow, standIns := [], harness := (true, "21d9cb3fcc2932cb0e71b1891e5573aa2b95bf5149f578181dc6aba6a465b66e"), looks := true }, kinds := [], alts := [], laidByText := true, laidKinds := [.data, .data, .data], laidTests := true, laidLooks := .later }
def RestClustersUptoCardSaid : Prop := Claim7.holds Tryz.pinned (.plain (OpenSpec.upto restClustersSpec)) restClustersUptoCard
end Rows
end Go.Proofs.YtjdgpgfiomnjkaaGreatDoor
