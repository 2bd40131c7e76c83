/-
  DERIVED. GIVEN WITH THE SEED: THE CARDS: each row of YtkaoldnhooojiaaGreatDoorRows.lean that lists a variable, with what it lists TIED to the program's text (the seventh form; the later family's looks); each row that meets fmt, with fmt's text TOLD by the authors' own Lean function (tested against real Go, not proved from fmt's source: count such statements apart). THE CARD IS WHAT COUNTS. Prove the row's statement (the work); the ties are given (YtkaoldnhooojiaaGreatDoorTie.lean); close each card by the builder's one call (the guide's Derived/Test/ToyasCard.lean, 'card_holds'). Laid BY PROGRAM, IN A SANDBOX (cutbox-door.mjs). By AI agents, Wed Nov 11 2026. No macro, syntax, notation, axiom, sorry.
-/
import Derived.Test.YtkaoldnhooojiaaGreatDoorRows
import GoSem.ClaimSeven
namespace Go.Proofs.YtkaoldnhooojiaaGreatDoor
namespace Rows

/-- THE TIED CARD OF 'forestaylaw.UpdateTells'. -/
def updateTellsCard : Claim7 := { stood := { row := updateTellsRow, standIns := [], harness := (true, "bdea0b0421d7e8002876cba8aaba5bddf22437de197da6dfb316ca1b5472f773"), looks := false }, kinds := [], alts := [], laidByText := true, laidKinds := [.data, .data, .data], laidTests := true, laidLooks := .later }
def UpdateTellsCardSaid : Prop := Claim7.holds Tryz.pinned (.plain (OpenSpec.ofChange updateTellsSpec)) updateTellsCard

/-- THE TIED CARD OF 'forestaylaw.UpdateBack'. -/
def updateBackCard : Claim7 := { stood := { row := updateBackRow, standIns := [], harness := (true, "bdea0b0421d7e8002876cba8aaba5bddf22437de197da6dfb316ca1b5472f773"), looks := false }, kinds := [], alts := [], laidByText := true, laidKinds := [.data, .data, .data], laidTests := true, laidLooks := .later }
def UpdateBackCardSaid : Prop := Claim7.holds Tryz.pinned (.plain (OpenSpec.ofChange updateBackSpec)) updateBackCard

/-- THE TIED CARD OF 'forestaylaw.UpdateOrder'. -/
def updateOrderCard : Claim7 := { stood := { row := updateOrderRow, standIns := [], harness := (true, "bdea0b0421d7e8002876cba8aaba5bddf22437de197da6dfb316ca1b5472f773"), looks := false }, kinds := [], alts := [], laidByText := true, laidKinds := [.data, .data, .data], laidTests := true, laidLooks := .later }
def UpdateOrderCardSaid : Prop := Claim7.holds Tryz.pinned (.plain (OpenSpec.ofChange updateOrderSpec)) updateOrderCard

/-- THE TIED CARD OF 'forestaylaw.DiffLeads'. -/
def diffLeadsCard : Claim7 := { stood := { row := diffLeadsRow, standIns := [], harness := (true, "bdea0b0421d7e8002876cba8aaba5bddf22437de197da6dfb316ca1b5472f773"), looks := false }, kinds := [], alts := [], laidByText := true, laidKinds := [.data, .data, .data], laidTests := true, laidLooks := .later }
def DiffLeadsCardSaid : Prop := Claim7.holds Tryz.pinned (.plain (OpenSpec.ofChange diffLeadsSpec)) diffLeadsCard

/-- THE TIED CARD OF 'forestaylaw.VoteTells'. -/
def voteTellsCard : Claim7 := { stood := { row := voteTellsRow, standIns := [], harness := (true, "bdea0b0421d7e8002876cba8aaba5bddf22437de197da6dfb316ca1b5472f773"), looks := false }, kinds := [], alts := [], laidByText := true, laidKinds := [.data, .data, .data], laidTests := true, laidLooks := .later }
def VoteTellsCardSaid : Prop := Claim7.holds Tryz.pinned (.plain (OpenSpec.ofChange voteTellsSpec)) voteTellsCard

/-- THE TIED CARD OF 'forestaylaw.VoteOne'. -/
def voteOneCard : Claim7 := { stood := { row := voteOneRow, standIns := [], harness := (true, "bdea0b0421d7e8002876cba8aaba5bddf22437de197da6dfb316ca1b5472f773"), looks := false }, kinds := [], alts := [], laidByText := true, laidKinds := [.data, .data, .data], laidTests := true, laidLooks := .later }
def VoteOneCardSaid : Prop := Claim7.holds Tryz.pinned (.plain (OpenSpec.ofChange voteOneSpec)) voteOneCard

/-- THE TIED CARD OF 'forestaylaw.VoteSame'. -/
def voteSameCard : Claim7 := { stood := { row := voteSameRow, standIns := [], harness := (true, "bdea0b0421d7e8002876cba8aaba5bddf22437de197da6dfb316ca1b5472f773"), looks := false }, kinds := [], alts := [], laidByText := true, laidKinds := [.data, .data, .data], laidTests := true, laidLooks := .later }
def VoteSameCardSaid : Prop := Claim7.holds Tryz.pinned (.plain (OpenSpec.ofChange voteSameSpec)) voteSameCard

/-- THE SECOND FORM's CARD OF 'forestaylaw.UpdateTells'. -/
def updateTellsUptoCard : Claim7 := { stood := { row := updateTellsUptoRow, standIns := [], harness := (true, "bdea0b0421d7e8002876cba8aaba5bddf22437de197da6dfb316ca1b5472f773"), looks := false }, kinds := [], alts := [], laidByText := true, laidKinds := [.data, .data, .data], laidTests := true, laidLooks := .later }
def UpdateTellsUptoCardSaid : Prop := Claim7.holds Tryz.pinned (.plain (OpenSpec.upto updateTellsSpec)) updateTellsUptoCard

/-- THE SECOND FORM's CARD OF 'forestaylaw.UpdateBack'. -/
def updateBackUptoCard : Claim7 := { stood := { row := updateBackUptoRow, standIns := [], harness := (true, "bdea0b0421d7e8002876cba8aaba5bddf22437de197da6dfb316ca1b5472f773"), looks := false }, kinds := [], alts := [], laidByText := true, laidKinds := [.data, .data, .data], laidTests := true, laidLooks := .later }
def UpdateBackUptoCardSaid : Prop := Claim7.holds Tryz.pinned (.plain (OpenSpec.upto updateBackSpec)) updateBackUptoCard

/-- THE SECOND FORM's CARD OF 'forestaylaw.UpdateOrder'. -/
def updateOrderUptoCard : Claim7 := { stood := { row := updateOrderUptoRow, standIns := [], harness := (true, "bdea0b0421d7e8002876cba8aaba5bddf22437de197da6dfb316ca1b5472f773"), looks := false }, kinds := [], alts := [], laidByText := true, laidKinds := [.data, .data, .data], laidTests := true, laidLooks := .later }
def UpdateOrderUptoCardSaid : Prop := Claim7.holds Tryz.pinned (.plain (OpenSpec.upto updateOrderSpec)) updateOrderUptoCard

/-- THE SECOND FORM's CARD OF 'forestaylaw.DiffLeads'. -/
def diffLeadsUptoCard : Claim7 := { stood := { row := diffLeadsUptoRow, standIns := [], harness := (true, "bdea0b0421d7e8002876cba8aaba5bddf22437de197da6dfb316ca1b5472f773"), looks := false }, kinds := [], alts := [], laidByText := true, laidKinds := [.data, .data, .data], laidTests := true, laidLooks := .later }
def DiffLeadsUptoCardSaid : Prop := Claim7.holds Tryz.pinned (.plain (OpenSpec.upto diffLeadsSpec)) diffLeadsUptoCard

/-- THE SECOND FORM's CARD OF 'forestaylaw.VoteTells'. -/
def voteTellsUptoCard : Claim7 := { stood := { row := voteTellsUptoRow, standIns := [], harness := (true, "bdea0b0421d7e8002876cba8aaba5bddf22437de197da6dfb316ca1b5472f773"), looks := false }, kinds := [], alts := [], laidByText := true, laidKinds := [.data, .data, .data], laidTests := true, laidLooks := .later }
def VoteTellsUptoCardSaid : Prop := Claim7.holds Tryz.pinned (.plain (OpenSpec.upto voteTellsSpec)) voteTellsUptoCard

/-- THE SECOND FORM's CARD OF 'forestaylaw.VoteOne'. -/
def voteOneUptoCard : Claim7 := { stood := { row := voteOneUptoRow, standIns := [], harness := (true, "bdea0b0421d7e8002876cba8aaba5bddf22437de197da6dfb316ca1b5472f773"), looks := false }, kinds := [], alts := [], laidByText := true, laidKinds := [.data, .data, .data], laidTests := true, laidLooks := .later }
def VoteOneUptoCardSaid : Prop := Claim7.holds Tryz.pinned (.plain (OpenSpec.upto voteOneSpec)) voteOneUptoCard

/-- THE SECOND FORM's CARD OF 'forestaylaw.VoteSame'. -/
def voteSameUptoCard : Claim7 := { stood := { row := voteSameUptoRow, standIns := [], harness := (true, "bdea0b0421d7e8002876cba8aaba5bddf22437de197da6dfb316ca1b5472f773"), looks := false }, kinds := [], alts := [], laidByText := true, laidKinds := [.data, .data, .data], laidTests := true, laidLooks := .later }
def VoteSameUptoCardSaid : Prop := Claim7.holds Tryz.pinned (.plain (OpenSpec.upto voteSameSpec)) voteSameUptoCard
end Rows
end Go.Proofs.YtkaoldnhooojiaaGreatDoor
