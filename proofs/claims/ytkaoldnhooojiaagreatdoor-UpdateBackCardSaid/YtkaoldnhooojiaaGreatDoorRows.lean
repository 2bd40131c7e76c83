/-
  NARROWER THAN 'FOR EVERY INPUT', by the rows' own cells (each row's printed sentence says how): UpdateTells: laid · UpdateBack: laid · UpdateOrder: laid · DiffLeads: laid · VoteTells: laid · VoteOne: laid · VoteSame: laid.
  DERIVED. THE GIVEN ROWS OF THIS SEAT. 7 by the template 'for every input the law returns true; each argument reads behind the call as it read before'; 0 by the template 'total and deterministic' (their statements: YtkaoldnhooojiaaGreatDoorTotals.lean).
  GIVEN WITH THE SEED: the statements are not yours to turn. If you find one false, say at which input.
  Laid BY PROGRAM, IN A SANDBOX (cutbox-rows.mjs): the forced cells as the released guide's own fill.sh prints them over the translation 5e7141db0b8053b9… (all of the seat's roots in one cut). By AI agents, Wed Nov 11 2026. No macro, syntax, notation, axiom, sorry.
-/
import Derived.Test.YtkaoldnhooojiaaGreatDoorChecked
import GoSem.Claim
import GoSem.ClaimJoined
import GoSem.ClaimMapViews
import Derived.JoinedTies
import Derived.KernelRfl
namespace Go.Proofs.YtkaoldnhooojiaaGreatDoor
/- THE CELL 'sum', in the pinned program and in every row, IS THE sha256 OF THE DUMP (.gsa) THAT YtkaoldnhooojiaaGreatDoorProg.lean LOADS. Nothing in Lean hashes anything: it is a label: what it is worth is what the hold of that sum in a sandbox is worth. -/
noncomputable def Tryz.pinned : Pinned := { name := "ytkaoldnhooojiaagreatdoor", sum := "5e7141db0b8053b9faa6014e14f4ca9ff08b44a2f6592094bba53647400a7b27", checked := Tryz.checked }
namespace Rows
def none {H : Type} : Left H := { results := [], args := [] }

/- WHAT THE LISTED PACKAGE-LEVEL VARIABLES READ AS WHEN THE CALL BEGINS. Each datum BY PROGRAM (the guide's laid-datum.mjs) off the statement by which the dump's own 'gosem.cut.vars' lays the variable. In a bare row this is a premise. The card (YtkaoldnhooojiaaGreatDoorCards.lean) ties it to the program's text. -/
def laid_math_bits_deBruijn32tab {H : Type} : DataW H := .agg [.lit (.int .u8 0), .lit (.int .u8 1), .lit (.int .u8 28), .lit (.int .u8 2), .lit (.int .u8 29), .lit (.int .u8 14), .lit (.int .u8 24), .lit (.int .u8 3), .lit (.int .u8 30), .lit (.int .u8 22), .lit (.int .u8 20), .lit (.int .u8 15), .lit (.int .u8 25), .lit (.int .u8 17), .lit (.int .u8 4), .lit (.int .u8 8), .lit (.int .u8 31), .lit (.int .u8 27), .lit (.int .u8 13), .lit (.int .u8 23), .lit (.int .u8 21), .lit (.int .u8 19), .lit (.int .u8 16), .lit (.int .u8 7), .lit (.int .u8 26), .lit (.int .u8 12), .lit (.int .u8 18), .lit (.int .u8 6), .lit (.int .u8 11), .lit (.int .u8 5), .lit (.int .u8 10), .lit (.int .u8 9)]
def laid_math_bits_deBruijn64tab {H : Type} : DataW H := .agg [.lit (.int .u8 0), .lit (.int .u8 1), .lit (.int .u8 56), .lit (.int .u8 2), .lit (.int .u8 57), .lit (.int .u8 49), .lit (.int .u8 28), .lit (.int .u8 3), .lit (.int .u8 61), .lit (.int .u8 58), .lit (.int .u8 42), .lit (.int .u8 50), .lit (.int .u8 38), .lit (.int .u8 29), .lit (.int .u8 17), .lit (.int .u8 4), .lit (.int .u8 62), .lit (.int .u8 47), .lit (.int .u8 59), .lit (.int .u8 36), .lit (.int .u8 45), .lit (.int .u8 43), .lit (.int .u8 51), .lit (.int .u8 22), .lit (.int .u8 53), .lit (.int .u8 39), .lit (.int .u8 33), .lit (.int .u8 30), .lit (.int .u8 24), .lit (.int .u8 18), .lit (.int .u8 12), .lit (.int .u8 5), .lit (.int .u8 63), .lit (.int .u8 55), .lit (.int .u8 48), .lit (.int .u8 27), .lit (.int .u8 60), .lit (.int .u8 41), .lit (.int .u8 37), .lit (.int .u8 16), .lit (.int .u8 46), .lit (.int .u8 35), .lit (.int .u8 44), .lit (.int .u8 21), .lit (.int .u8 52), .lit (.int .u8 32), .lit (.int .u8 23), .lit (.int .u8 11), .lit (.int .u8 54), .lit (.int .u8 26), .lit (.int .u8 40), .lit (.int .u8 15), .lit (.int .u8 34), .lit (.int .u8 20), .lit (.int .u8 31), .lit (.int .u8 10), .lit (.int .u8 25), .lit (.int .u8 14), .lit (.int .u8 19), .lit (.int .u8 9), .lit (.int .u8 13), .lit (.int .u8 8), .lit (.int .u8 7), .lit (.int .u8 6)]
def laid_internal_strconv_uint64pow10 {H : Type} : DataW H := .agg [.lit (.int .u64 1), .lit (.int .u64 10), .lit (.int .u64 100), .lit (.int .u64 1000), .lit (.int .u64 10000), .lit (.int .u64 100000), .lit (.int .u64 1000000), .lit (.int .u64 10000000), .lit (.int .u64 100000000), .lit (.int .u64 1000000000), .lit (.int .u64 10000000000), .lit (.int .u64 100000000000), .lit (.int .u64 1000000000000), .lit (.int .u64 10000000000000), .lit (.int .u64 100000000000000), .lit (.int .u64 1000000000000000), .lit (.int .u64 10000000000000000), .lit (.int .u64 100000000000000000), .lit (.int .u64 1000000000000000000), .lit (.int .u64 10000000000000000000)]

/-- 'forestaylaw.UpdateTells': WHATEVER THE INPUT: true; the input reads as it did. -/
def updateTellsSpec : ChangeSpec := { name := "updateTells", fn := fun _ => fun
  | [d1, d2, d3, d4] => { results := [.lit (.bool true)], args := [d1, d2, d3, d4] }
  | _ => none }
def updateTellsRow : OpenClaim := { program := "ytkaoldnhooojiaagreatdoor", sum := "5e7141db0b8053b9faa6014e14f4ca9ff08b44a2f6592094bba53647400a7b27", func := "forestay/forestaylaw.UpdateTells", spec := "updateTells", inPlace := ["internal/bytealg.abigen_runtime_cmpstring", "slices.overlaps[forestay/api.Ref]", "internal/abi.NoEscape", "internal/bytealg.MakeNoZero"], unfollowed := true, recurses := true, named := ["internal/strconv.uint64pow10", "math/bits.deBruijn32tab", "math/bits.deBruijn64tab"], apart := false, laid := [("math/bits.deBruijn32tab", laid_math_bits_deBruijn32tab), ("math/bits.deBruijn64tab", laid_math_bits_deBruijn64tab), ("internal/strconv.uint64pow10", laid_internal_strconv_uint64pow10)] }
def UpdateTellsSaid : Prop := updateTellsRow.holds Tryz.pinned (OpenSpec.ofChange updateTellsSpec)

/-- ITS FALSE NEIGHBOUR: 'it returns false'. Refute it at one input. -/
def updateTellsWrong : ChangeSpec := { name := "updateTells", fn := fun _ => fun
  | [d1, d2, d3, d4] => { results := [.lit (.bool false)], args := [d1, d2, d3, d4] }
  | _ => none }
def UpdateTellsWrongFalsely : Prop := updateTellsRow.holds Tryz.pinned (OpenSpec.ofChange updateTellsWrong)

/-- 'forestaylaw.UpdateBack': WHATEVER THE INPUT: true; the input reads as it did. -/
def updateBackSpec : ChangeSpec := { name := "updateBack", fn := fun _ => fun
  | [d1, d2, d3, d4] => { results := [.lit (.bool true)], args := [d1, d2, d3, d4] }
  | _ => none }
def updateBackRow : OpenClaim := { program := "ytkaoldnhooojiaagreatdoor", sum := "5e7141db0b8053b9faa6014e14f4ca9ff08b44a2f6592094bba53647400a7b27", func := "forestay/forestaylaw.UpdateBack", spec := "updateBack", inPlace := ["internal/bytealg.abigen_runtime_cmpstring", "slices.overlaps[forestay/api.Ref]", "internal/abi.NoEscape", "internal/bytealg.MakeNoZero"], unfollowed := true, recurses := true, named := ["internal/strconv.uint64pow10", "math/bits.deBruijn32tab", "math/bits.deBruijn64tab"], apart := false, laid := [("math/bits.deBruijn32tab", laid_math_bits_deBruijn32tab), ("math/bits.deBruijn64tab", laid_math_bits_deBruijn64tab), ("internal/strconv.uint64pow10", laid_internal_strconv_uint64pow10)] }
def UpdateBackSaid : Prop := updateBackRow.holds Tryz.pinned (OpenSpec.ofChange updateBackSpec)

/-- ITS FALSE NEIGHBOUR: 'it returns false'. Refute it at one input. -/
def updateBackWrong : ChangeSpec := { name := "updateBack", fn := fun _ => fun
  | [d1, d2, d3, d4] => { results := [.lit (.bool false)], args := [d1, d2, d3, d4] }
  | _ => none }
def UpdateBackWrongFalsely : Prop := updateBackRow.holds Tryz.pinned (OpenSpec.ofChange updateBackWrong)

/-- 'forestaylaw.UpdateOrder': WHATEVER THE INPUT: true; the input reads as it did. -/
def updateOrderSpec : ChangeSpec := { name := "updateOrder", fn := fun _ => fun
  | [d1, d2, d3, d4] => { results := [.lit (.bool true)], args := [d1, d2, d3, d4] }
  | _ => none }
def updateOrderRow : OpenClaim := { program := "ytkaoldnhooojiaagreatdoor", sum := "5e7141db0b8053b9faa6014e14f4ca9ff08b44a2f6592094bba53647400a7b27", func := "forestay/forestaylaw.UpdateOrder", spec := "updateOrder", inPlace := ["internal/bytealg.abigen_runtime_cmpstring", "slices.overlaps[forestay/api.Ref]", "internal/abi.NoEscape", "internal/bytealg.MakeNoZero"], unfollowed := true, recurses := true, named := ["internal/strconv.uint64pow10", "math/bits.deBruijn32tab", "math/bits.deBruijn64tab"], apart := false, laid := [("math/bits.deBruijn32tab", laid_math_bits_deBruijn32tab), ("math/bits.deBruijn64tab", laid_math_bits_deBruijn64tab), ("internal/strconv.uint64pow10", laid_internal_strconv_uint64pow10)] }
def UpdateOrderSaid : Prop := updateOrderRow.holds Tryz.pinned (OpenSpec.ofChange updateOrderSpec)

/-- ITS FALSE NEIGHBOUR: 'it returns false'. Refute it at one input. -/
def updateOrderWrong : ChangeSpec := { name := "updateOrder", fn := fun _ => fun
  | [d1, d2, d3, d4] => { results := [.lit (.bool false)], args := [d1, d2, d3, d4] }
  | _ => none }
def UpdateOrderWrongFalsely : Prop := updateOrderRow.holds Tryz.pinned (OpenSpec.ofChange updateOrderWrong)

/-- 'forestaylaw.DiffLeads': WHATEVER THE INPUT: true; the input reads as it did. -/
def diffLeadsSpec : ChangeSpec := { name := "diffLeads", fn := fun _ => fun
  | [d1, d2, d3] => { results := [.lit (.bool true)], args := [d1, d2, d3] }
  | _ => none }
def diffLeadsRow : OpenClaim := { program := "ytkaoldnhooojiaagreatdoor", sum := "5e7141db0b8053b9faa6014e14f4ca9ff08b44a2f6592094bba53647400a7b27", func := "forestay/forestaylaw.DiffLeads", spec := "diffLeads", inPlace := ["internal/bytealg.abigen_runtime_cmpstring", "slices.overlaps[forestay/api.Ref]", "internal/abi.NoEscape", "internal/bytealg.MakeNoZero"], unfollowed := true, recurses := true, named := ["internal/strconv.uint64pow10", "math/bits.deBruijn32tab", "math/bits.deBruijn64tab"], apart := false, laid := [("math/bits.deBruijn32tab", laid_math_bits_deBruijn32tab), ("math/bits.deBruijn64tab", laid_math_bits_deBruijn64tab), ("internal/strconv.uint64pow10", laid_internal_strconv_uint64pow10)] }
def DiffLeadsSaid : Prop := diffLeadsRow.holds Tryz.pinned (OpenSpec.ofChange diffLeadsSpec)

/-- ITS FALSE NEIGHBOUR: 'it returns false'. Refute it at one input. -/
def diffLeadsWrong : ChangeSpec := { name := "diffLeads", fn := fun _ => fun
  | [d1, d2, d3] => { results := [.lit (.bool false)], args := [d1, d2, d3] }
  | _ => none }
def DiffLeadsWrongFalsely : Prop := diffLeadsRow.holds Tryz.pinned (OpenSpec.ofChange diffLeadsWrong)

/-- 'forestaylaw.VoteTells': WHATEVER THE INPUT: true; the input reads as it did. -/
def voteTellsSpec : ChangeSpec := { name := "voteTells", fn := fun _ => fun
  | [d1, d2, d3] => { results := [.lit (.bool true)], args := [d1, d2, d3] }
  | _ => none }
def voteTellsRow : OpenClaim := { program := "ytkaoldnhooojiaagreatdoor", sum := "5e7141db0b8053b9faa6014e14f4ca9ff08b44a2f6592094bba53647400a7b27", func := "forestay/forestaylaw.VoteTells", spec := "voteTells", inPlace := ["slices.overlaps[forestay/api.Object]", "internal/bytealg.abigen_runtime_cmpstring", "slices.overlaps[forestay/api.Ref]", "internal/abi.NoEscape", "internal/bytealg.MakeNoZero"], unfollowed := true, recurses := true, named := ["internal/strconv.uint64pow10", "math/bits.deBruijn32tab", "math/bits.deBruijn64tab"], apart := false, laid := [("math/bits.deBruijn32tab", laid_math_bits_deBruijn32tab), ("math/bits.deBruijn64tab", laid_math_bits_deBruijn64tab), ("internal/strconv.uint64pow10", laid_internal_strconv_uint64pow10)] }
def VoteTellsSaid : Prop := voteTellsRow.holds Tryz.pinned (OpenSpec.ofChange voteTellsSpec)

/-- ITS FALSE NEIGHBOUR: 'it returns false'. Refute it at one input. -/
def voteTellsWrong : ChangeSpec := { name := "voteTells", fn := fun _ => fun
  | [d1, d2, d3] => { results := [.lit (.bool false)], args := [d1, d2, d3] }
  | _ => none }
def VoteTellsWrongFalsely : Prop := voteTellsRow.holds Tryz.pinned (OpenSpec.ofChange voteTellsWrong)

/-- 'forestaylaw.VoteOne': WHATEVER THE INPUT: true; the input reads as it did. -/
def voteOneSpec : ChangeSpec := { name := "voteOne", fn := fun _ => fun
  | [d1, d2, d3] => { results := [.lit (.bool true)], args := [d1, d2, d3] }
  | _ => none }
def voteOneRow : OpenClaim := { program := "ytkaoldnhooojiaagreatdoor", sum := "5e7141db0b8053b9faa6014e14f4ca9ff08b44a2f6592094bba53647400a7b27", func := "forestay/forestaylaw.VoteOne", spec := "voteOne", inPlace := ["slices.overlaps[forestay/api.Object]", "internal/bytealg.abigen_runtime_cmpstring", "slices.overlaps[forestay/api.Ref]", "internal/abi.NoEscape", "internal/bytealg.MakeNoZero"], unfollowed := true, recurses := true, named := ["internal/strconv.uint64pow10", "math/bits.deBruijn32tab", "math/bits.deBruijn64tab"], apart := false, laid := [("math/bits.deBruijn32tab", laid_math_bits_deBruijn32tab), ("math/bits.deBruijn64tab", laid_math_bits_deBruijn64tab), ("internal/strconv.uint64pow10", laid_internal_strconv_uint64pow10)] }
def VoteOneSaid : Prop := voteOneRow.holds Tryz.pinned (OpenSpec.ofChange voteOneSpec)

/-- ITS FALSE NEIGHBOUR: 'it returns false'. Refute it at one input. -/
def voteOneWrong : ChangeSpec := { name := "voteOne", fn := fun _ => fun
  | [d1, d2, d3] => { results := [.lit (.bool false)], args := [d1, d2, d3] }
  | _ => none }
def VoteOneWrongFalsely : Prop := voteOneRow.holds Tryz.pinned (OpenSpec.ofChange voteOneWrong)

/-- 'forestaylaw.VoteSame': WHATEVER THE INPUT: true; the input reads as it did. -/
def voteSameSpec : ChangeSpec := { name := "voteSame", fn := fun _ => fun
  | [d1, d2, d3] => { results := [.lit (.bool true)], args := [d1, d2, d3] }
  | _ => none }
def voteSameRow : OpenClaim := { program := "ytkaoldnhooojiaagreatdoor", sum := "5e7141db0b8053b9faa6014e14f4ca9ff08b44a2f6592094bba53647400a7b27", func := "forestay/forestaylaw.VoteSame", spec := "voteSame", inPlace := ["slices.overlaps[forestay/api.Object]", "internal/bytealg.abigen_runtime_cmpstring", "slices.overlaps[forestay/api.Ref]", "internal/abi.NoEscape", "internal/bytealg.MakeNoZero"], unfollowed := true, recurses := true, named := ["internal/strconv.uint64pow10", "math/bits.deBruijn32tab", "math/bits.deBruijn64tab"], apart := false, laid := [("math/bits.deBruijn32tab", laid_math_bits_deBruijn32tab), ("math/bits.deBruijn64tab", laid_math_bits_deBruijn64tab), ("internal/strconv.uint64pow10", laid_internal_strconv_uint64pow10)] }
def VoteSameSaid : Prop := voteSameRow.holds Tryz.pinned (OpenSpec.ofChange voteSameSpec)

/-- ITS FALSE NEIGHBOUR: 'it returns false'. Refute it at one input. -/
def voteSameWrong : ChangeSpec := { name := "voteSame", fn := fun _ => fun
  | [d1, d2, d3] => { results := [.lit (.bool false)], args := [d1, d2, d3] }
  | _ => none }
def VoteSameWrongFalsely : Prop := voteSameRow.holds Tryz.pinned (OpenSpec.ofChange voteSameWrong)

/- THE SECOND FORM. 'bulk': how many values and letters a reading holds, each counted each time it is reached (what is shared counts as often as it is met; a slice's spare places count too). A statement '..UptoSaid' is the law's where the arguments, and the package variables that the reading takes, are together of bulk at most 1048576: NARROWER than '..Said'. Prove '..Said' where nothing that the law and all that it calls make is longer than what came in: it says more and counts as full. Else prove '..UptoSaid'. A law counts once. -/
mutual
def uptoBulk {H : Type} : DataW H → Nat
  | .lit (.string bytes) => bytes.length + 1
  | .lit _ => 1
  | .nil => 1
  | .ptr d => uptoBulk d + 1
  | .slice elems spare => uptoBulkAll elems + uptoBulkAll spare + 1
  | .agg parts => uptoBulkAll parts + 1
  | .iface _ d => uptoBulk d + 1
  | .map entries => uptoBulkEntries entries + 1
  | .held _ => 1
def uptoBulkAll {H : Type} : List (DataW H) → Nat
  | [] => 0
  | d :: r => uptoBulk d + uptoBulkAll r
def uptoBulkEntries {H : Type} : List (Lit × DataW H) → Nat
  | [] => 0
  | x :: r => uptoBulkEntry x + uptoBulkEntries r
def uptoBulkEntry {H : Type} : Lit × DataW H → Nat
  | (.string bytes, d) => bytes.length + uptoBulk d + 1
  | (_, d) => uptoBulk d + 1
 end
def uptoSmall : (H : Type) → List (DataW H) → Bool := fun _ ds => decide (uptoBulkAll ds ≤ 1048576)
def OpenSpec.upto (s : _root_.Go.ChangeSpec) : _root_.Go.OpenSpec := { _root_.Go.OpenSpec.ofChange s with cond := some uptoSmall }

/-- 'forestaylaw.UpdateTells', WHERE WHAT IT READS IS OF BULK AT MOST 1048576: true; the input reads as it did. -/
def updateTellsUptoRow : OpenClaim := { program := "ytkaoldnhooojiaagreatdoor", sum := "5e7141db0b8053b9faa6014e14f4ca9ff08b44a2f6592094bba53647400a7b27", func := "forestay/forestaylaw.UpdateTells", spec := "updateTells", inPlace := ["internal/bytealg.abigen_runtime_cmpstring", "slices.overlaps[forestay/api.Ref]", "internal/abi.NoEscape", "internal/bytealg.MakeNoZero"], unfollowed := true, recurses := true, named := ["internal/strconv.uint64pow10", "math/bits.deBruijn32tab", "math/bits.deBruijn64tab"], apart := false, laid := [("math/bits.deBruijn32tab", laid_math_bits_deBruijn32tab), ("math/bits.deBruijn64tab", laid_math_bits_deBruijn64tab), ("internal/strconv.uint64pow10", laid_internal_strconv_uint64pow10)], narrowed := true }
def UpdateTellsUptoSaid : Prop := updateTellsUptoRow.holds Tryz.pinned (OpenSpec.upto updateTellsSpec)

/-- 'forestaylaw.UpdateBack', WHERE WHAT IT READS IS OF BULK AT MOST 1048576: true; the input reads as it did. -/
def updateBackUptoRow : OpenClaim := { program := "ytkaoldnhooojiaagreatdoor", sum := "5e7141db0b8053b9faa6014e14f4ca9ff08b44a2f6592094bba53647400a7b27", func := "forestay/forestaylaw.UpdateBack", spec := "updateBack", inPlace := ["internal/bytealg.abigen_runtime_cmpstring", "slices.overlaps[forestay/api.Ref]", "internal/abi.NoEscape", "internal/bytealg.MakeNoZero"], unfollowed := true, recurses := true, named := ["internal/strconv.uint64pow10", "math/bits.deBruijn32tab", "math/bits.deBruijn64tab"], apart := false, laid := [("math/bits.deBruijn32tab", laid_math_bits_deBruijn32tab), ("math/bits.deBruijn64tab", laid_math_bits_deBruijn64tab), ("internal/strconv.uint64pow10", laid_internal_strconv_uint64pow10)], narrowed := true }
def UpdateBackUptoSaid : Prop := updateBackUptoRow.holds Tryz.pinned (OpenSpec.upto updateBackSpec)

/-- 'forestaylaw.UpdateOrder', WHERE WHAT IT READS IS OF BULK AT MOST 1048576: true; the input reads as it did. -/
def updateOrderUptoRow : OpenClaim := { program := "ytkaoldnhooojiaagreatdoor", sum := "5e7141db0b8053b9faa6014e14f4ca9ff08b44a2f6592094bba53647400a7b27", func := "forestay/forestaylaw.UpdateOrder", spec := "updateOrder", inPlace := ["internal/bytealg.abigen_runtime_cmpstring", "slices.overlaps[forestay/api.Ref]", "internal/abi.NoEscape", "internal/bytealg.MakeNoZero"], unfollowed := true, recurses := true, named := ["internal/strconv.uint64pow10", "math/bits.deBruijn32tab", "math/bits.deBruijn64tab"], apart := false, laid := [("math/bits.deBruijn32tab", laid_math_bits_deBruijn32tab), ("math/bits.deBruijn64tab", laid_math_bits_deBruijn64tab), ("internal/strconv.uint64pow10", laid_internal_strconv_uint64pow10)], narrowed := true }
def UpdateOrderUptoSaid : Prop := updateOrderUptoRow.holds Tryz.pinned (OpenSpec.upto updateOrderSpec)

/-- 'forestaylaw.DiffLeads', WHERE WHAT IT READS IS OF BULK AT MOST 1048576: true; the input reads as it did. -/
def diffLeadsUptoRow : OpenClaim := { program := "ytkaoldnhooojiaagreatdoor", sum := "5e7141db0b8053b9faa6014e14f4ca9ff08b44a2f6592094bba53647400a7b27", func := "forestay/forestaylaw.DiffLeads", spec := "diffLeads", inPlace := ["internal/bytealg.abigen_runtime_cmpstring", "slices.overlaps[forestay/api.Ref]", "internal/abi.NoEscape", "internal/bytealg.MakeNoZero"], unfollowed := true, recurses := true, named := ["internal/strconv.uint64pow10", "math/bits.deBruijn32tab", "math/bits.deBruijn64tab"], apart := false, laid := [("math/bits.deBruijn32tab", laid_math_bits_deBruijn32tab), ("math/bits.deBruijn64tab", laid_math_bits_deBruijn64tab), ("internal/strconv.uint64pow10", laid_internal_strconv_uint64pow10)], narrowed := true }
def DiffLeadsUptoSaid : Prop := diffLeadsUptoRow.holds Tryz.pinned (OpenSpec.upto diffLeadsSpec)

/-- 'forestaylaw.VoteTells', WHERE WHAT IT READS IS OF BULK AT MOST 1048576: true; the input reads as it did. -/
def voteTellsUptoRow : OpenClaim := { program := "ytkaoldnhooojiaagreatdoor", sum := "5e7141db0b8053b9faa6014e14f4ca9ff08b44a2f6592094bba53647400a7b27", func := "forestay/forestaylaw.VoteTells", spec := "voteTells", inPlace := ["slices.overlaps[forestay/api.Object]", "internal/bytealg.abigen_runtime_cmpstring", "slices.overlaps[forestay/api.Ref]", "internal/abi.NoEscape", "internal/bytealg.MakeNoZero"], unfollowed := true, recurses := true, named := ["internal/strconv.uint64pow10", "math/bits.deBruijn32tab", "math/bits.deBruijn64tab"], apart := false, laid := [("math/bits.deBruijn32tab", laid_math_bits_deBruijn32tab), ("math/bits.deBruijn64tab", laid_math_bits_deBruijn64tab), ("internal/strconv.uint64pow10", laid_internal_strconv_uint64pow10)], narrowed := true }
def VoteTellsUptoSaid : Prop := voteTellsUptoRow.holds Tryz.pinned (OpenSpec.upto voteTellsSpec)

/-- 'forestaylaw.VoteOne', WHERE WHAT IT READS IS OF BULK AT MOST 1048576: true; the input reads as it did. -/
def voteOneUptoRow : OpenClaim := { program := "ytkaoldnhooojiaagreatdoor", sum := "5e7141db0b8053b9faa6014e14f4ca9ff08b44a2f6592094bba53647400a7b27", func := "forestay/forestaylaw.VoteOne", spec := "voteOne", inPlace := ["slices.overlaps[forestay/api.Object]", "internal/bytealg.abigen_runtime_cmpstring", "slices.overlaps[forestay/api.Ref]", "internal/abi.NoEscape", "internal/bytealg.MakeNoZero"], unfollowed := true, recurses := true, named := ["internal/strconv.uint64pow10", "math/bits.deBruijn32tab", "math/bits.deBruijn64tab"], apart := false, laid := [("math/bits.deBruijn32tab", laid_math_bits_deBruijn32tab), ("math/bits.deBruijn64tab", laid_math_bits_deBruijn64tab), ("internal/strconv.uint64pow10", laid_internal_strconv_uint64pow10)], narrowed := true }
def VoteOneUptoSaid : Prop := voteOneUptoRow.holds Tryz.pinned (OpenSpec.upto voteOneSpec)

/-- 'forestaylaw.VoteSame', WHERE WHAT IT READS IS OF BULK AT MOST 1048576: true; the input reads as it did. -/
def voteSameUptoRow : OpenClaim := { program := "ytkaoldnhooojiaagreatdoor", sum := "5e7141db0b8053b9faa6014e14f4ca9ff08b44a2f6592094bba53647400a7b27", func := "forestay/forestaylaw.VoteSame", spec := "voteSame", inPlace := ["slices.overlaps[forestay/api.Object]", "internal/bytealg.abigen_runtime_cmpstring", "slices.overlaps[forestay/api.Ref]", "internal/abi.NoEscape", "internal/bytealg.MakeNoZero"], unfollowed := true, recurses := true, named := ["internal/strconv.uint64pow10", "math/bits.deBruijn32tab", "math/bits.deBruijn64tab"], apart := false, laid := [("math/bits.deBruijn32tab", laid_math_bits_deBruijn32tab), ("math/bits.deBruijn64tab", laid_math_bits_deBruijn64tab), ("internal/strconv.uint64pow10", laid_internal_strconv_uint64pow10)], narrowed := true }
def VoteSameUptoSaid : Prop := voteSameUptoRow.holds Tryz.pinned (OpenSpec.upto voteSameSpec)

end Rows
end Go.Proofs.YtkaoldnhooojiaaGreatDoor
