/-
  NARROWER THAN 'FOR EVERY INPUT', by the rows' own cells (each row's printed sentence says how): RestStores: laid · VoteTells: laid · VoteOne: laid · ReplicaTells: laid · ReplicaApart: laid · ClusterTells: laid · ClusterSafe: laid · ClusterBits: laid · RepairAll: laid · DeskTells: laid · DeskRuns: laid · DeskStays: laid · RestClusters: laid · VoteSame: laid · ReplicaSteps: laid.
  DERIVED. THE GIVEN ROWS OF THIS SEAT. 15 by the template 'for every input the law returns true; each argument reads behind the call as it read before'; 0 by the template 'total and deterministic' (their statements: YtdhoodloklgokaaGreatDoorTotals.lean).
  GIVEN WITH THE SEED: the statements are not yours to turn. If you find one false, say at which input.
  Laid BY PROGRAM, IN A SANDBOX (cutbox-rows.mjs): the forced cells as the released guide's own fill.sh prints them over the translation a900238c5f0e272b… (all of the seat's roots in one cut). By AI agents, Wed Nov 11 2026. No macro, syntax, notation, axiom, sorry.
-/
import Derived.Test.YtdhoodloklgokaaGreatDoorChecked
import GoSem.Claim
import GoSem.ClaimJoined
import GoSem.ClaimMapViews
import Derived.JoinedTies
import Derived.KernelRfl
namespace Go.Proofs.YtdhoodloklgokaaGreatDoor
/- THE CELL 'sum', in the pinned program and in every row, IS THE sha256 OF THE DUMP (.gsa) THAT YtdhoodloklgokaaGreatDoorProg.lean LOADS. Nothing in Lean hashes anything: it is a label: what it is worth is what the hold of that sum in a sandbox is worth. -/
noncomputable def Tryz.pinned : Pinned := { name := "ytdhoodloklgokaagreatdoor", sum := "a900238c5f0e272bacccc33831bb1580dce360fa8ab74f212bf5020cc6e151ce", checked := Tryz.checked }
namespace Rows
def none {H : Type} : Left H := { results := [], args := [] }

/- WHAT THE LISTED PACKAGE-LEVEL VARIABLES READ AS WHEN THE CALL BEGINS. Each datum BY PROGRAM (the guide's laid-datum.mjs) off the statement by which the dump's own 'gosem.cut.vars' lays the variable. In a bare row this is a premise. The card (YtdhoodloklgokaaGreatDoorCards.lean) ties it to the program's text. -/
def laid_math_bits_deBruijn32tab {H : Type} : DataW H := .agg [.lit (.int .u8 0), .lit (.int .u8 1), .lit (.int .u8 28), .lit (.int .u8 2), .lit (.int .u8 29), .lit (.int .u8 14), .lit (.int .u8 24), .lit (.int .u8 3), .lit (.int .u8 30), .lit (.int .u8 22), .lit (.int .u8 20), .lit (.int .u8 15), .lit (.int .u8 25), .lit (.int .u8 17), .lit (.int .u8 4), .lit (.int .u8 8), .lit (.int .u8 31), .lit (.int .u8 27), .lit (.int .u8 13), .lit (.int .u8 23), .lit (.int .u8 21), .lit (.int .u8 19), .lit (.int .u8 16), .lit (.int .u8 7), .lit (.int .u8 26), .lit (.int .u8 12), .lit (.int .u8 18), .lit (.int .u8 6), .lit (.int .u8 11), .lit (.int .u8 5), .lit (.int .u8 10), .lit (.int .u8 9)]
def laid_math_bits_deBruijn64tab {H : Type} : DataW H := .agg [.lit (.int .u8 0), .lit (.int .u8 1), .lit (.int .u8 56), .lit (.int .u8 2), .lit (.int .u8 57), .lit (.int .u8 49), .lit (.int .u8 28), .lit (.int .u8 3), .lit (.int .u8 61), .lit (.int .u8 58), .lit (.int .u8 42), .lit (.int .u8 50), .lit (.int .u8 38), .lit (.int .u8 29), .lit (.int .u8 17), .lit (.int .u8 4), .lit (.int .u8 62), .lit (.int .u8 47), .lit (.int .u8 59), .lit (.int .u8 36), .lit (.int .u8 45), .lit (.int .u8 43), .lit (.int .u8 51), .lit (.int .u8 22), .lit (.int .u8 53), .lit (.int .u8 39), .lit (.int .u8 33), .lit (.int .u8 30), .lit (.int .u8 24), .lit (.int .u8 18), .lit (.int .u8 12), .lit (.int .u8 5), .lit (.int .u8 63), .lit (.int .u8 55), .lit (.int .u8 48), .lit (.int .u8 27), .lit (.int .u8 60), .lit (.int .u8 41), .lit (.int .u8 37), .lit (.int .u8 16), .lit (.int .u8 46), .lit (.int .u8 35), .lit (.int .u8 44), .lit (.int .u8 21), .lit (.int .u8 52), .lit (.int .u8 32), .lit (.int .u8 23), .lit (.int .u8 11), .lit (.int .u8 54), .lit (.int .u8 26), .lit (.int .u8 40), .lit (.int .u8 15), .lit (.int .u8 34), .lit (.int .u8 20), .lit (.int .u8 31), .lit (.int .u8 10), .lit (.int .u8 25), .lit (.int .u8 14), .lit (.int .u8 19), .lit (.int .u8 9), .lit (.int .u8 13), .lit (.int .u8 8), .lit (.int .u8 7), .lit (.int .u8 6)]
def laid_internal_strconv_uint64pow10 {H : Type} : DataW H := .agg [.lit (.int .u64 1), .lit (.int .u64 10), .lit (.int .u64 100), .lit (.int .u64 1000), .lit (.int .u64 10000), .lit (.int .u64 100000), .lit (.int .u64 1000000), .lit (.int .u64 10000000), .lit (.int .u64 100000000), .lit (.int .u64 1000000000), .lit (.int .u64 10000000000), .lit (.int .u64 100000000000), .lit (.int .u64 1000000000000), .lit (.int .u64 10000000000000), .lit (.int .u64 100000000000000), .lit (.int .u64 1000000000000000), .lit (.int .u64 10000000000000000), .lit (.int .u64 100000000000000000), .lit (.int .u64 1000000000000000000), .lit (.int .u64 10000000000000000000)]

/-- 'forestaylaw.RestStores': WHATEVER THE INPUT: true; the input reads as it did. -/
def restStoresSpec : ChangeSpec := { name := "restStores", fn := fun _ => fun
  | [d1, d2, d3] => { results := [.lit (.bool true)], args := [d1, d2, d3] }
  | _ => none }
def restStoresRow : OpenClaim := { program := "ytdhoodloklgokaagreatdoor", sum := "a900238c5f0e272bacccc33831bb1580dce360fa8ab74f212bf5020cc6e151ce", func := "forestay/forestaylaw.RestStores", spec := "restStores", inPlace := ["slices.overlaps[forestay/api.Object]", "internal/bytealg.abigen_runtime_cmpstring", "slices.overlaps[forestay/api.Ref]", "internal/abi.NoEscape", "internal/bytealg.MakeNoZero"], unfollowed := true, recurses := true, named := ["internal/strconv.uint64pow10", "math/bits.deBruijn32tab", "math/bits.deBruijn64tab"], apart := false, laid := [("math/bits.deBruijn32tab", laid_math_bits_deBruijn32tab), ("math/bits.deBruijn64tab", laid_math_bits_deBruijn64tab), ("internal/strconv.uint64pow10", laid_internal_strconv_uint64pow10)] }
def RestStoresSaid : Prop := restStoresRow.holds Tryz.pinned (OpenSpec.ofChange restStoresSpec)

/-- ITS FALSE NEIGHBOUR: 'it returns false'. Refute it at one input. -/
def restStoresWrong : ChangeSpec := { name := "restStores", fn := fun _ => fun
  | [d1, d2, d3] => { results := [.lit (.bool false)], args := [d1, d2, d3] }
  | _ => none }
def RestStoresWrongFalsely : Prop := restStoresRow.holds Tryz.pinned (OpenSpec.ofChange restStoresWrong)

/-- 'forestaylaw.VoteTells': WHATEVER THE INPUT: true; the input reads as it did. -/
def voteTellsSpec : ChangeSpec := { name := "voteTells", fn := fun _ => fun
  | [d1, d2, d3] => { results := [.lit (.bool true)], args := [d1, d2, d3] }
  | _ => none }
def voteTellsRow : OpenClaim := { program := "ytdhoodloklgokaagreatdoor", sum := "a900238c5f0e272bacccc33831bb1580dce360fa8ab74f212bf5020cc6e151ce", func := "forestay/forestaylaw.VoteTells", spec := "voteTells", inPlace := ["slices.overlaps[forestay/api.Object]", "internal/bytealg.abigen_runtime_cmpstring", "slices.overlaps[forestay/api.Ref]", "internal/abi.NoEscape", "internal/bytealg.MakeNoZero"], unfollowed := true, recurses := true, named := ["internal/strconv.uint64pow10", "math/bits.deBruijn32tab", "math/bits.deBruijn64tab"], apart := false, laid := [("math/bits.deBruijn32tab", laid_math_bits_deBruijn32tab), ("math/bits.deBruijn64tab", laid_math_bits_deBruijn64tab), ("internal/strconv.uint64pow10", laid_internal_strconv_uint64pow10)] }
def VoteTellsSaid : Prop := voteTellsRow.holds Tryz.pinned (OpenSpec.ofChange voteTellsSpec)

/-- ITS FALSE NEIGHBOUR: 'it returns false'. Refute it at one input. -/
def voteTellsWrong : ChangeSpec := { name := "voteTells", fn := fun _ => fun
  | [d1, d2, d3] => { results := [.lit (.bool false)], args := [d1, d2, d3] }
  | _ => none }
def VoteTellsWrongFalsely : Prop := voteTellsRow.holds Tryz.pinned (OpenSpec.ofChange voteTellsWrong)

/-- 'forestaylaw.VoteOne': WHATEVER THE INPUT: true; the input reads as it did. -/
def voteOneSpec : ChangeSpec := { name := "voteOne", fn := fun _ => fun
  | [d1, d2, d3] => { results := [.lit (.bool true)], args := [d1, d2, d3] }
  | _ => none }
def voteOneRow : OpenClaim := { program := "ytdhoodloklgokaagreatdoor", sum := "a900238c5f0e272bacccc33831bb1580dce360fa8ab74f212bf5020cc6e151ce", func := "forestay/forestaylaw.VoteOne", spec := "voteOne", inPlace := ["slices.overlaps[forestay/api.Object]", "internal/bytealg.abigen_runtime_cmpstring", "slices.overlaps[forestay/api.Ref]", "internal/abi.NoEscape", "internal/bytealg.MakeNoZero"], unfollowed := true, recurses := true, named := ["internal/strconv.uint64pow10", "math/bits.deBruijn32tab", "math/bits.deBruijn64tab"], apart := false, laid := [("math/bits.deBruijn32tab", laid_math_bits_deBruijn32tab), ("math/bits.deBruijn64tab", laid_math_bits_deBruijn64tab), ("internal/strconv.uint64pow10", laid_internal_strconv_uint64pow10)] }
def VoteOneSaid : Prop := voteOneRow.holds Tryz.pinned (OpenSpec.ofChange voteOneSpec)

/-- ITS FALSE NEIGHBOUR: 'it returns false'. Refute it at one input. -/
def voteOneWrong : ChangeSpec := { name := "voteOne", fn := fun _ => fun
  | [d1, d2, d3] => { results := [.lit (.bool false)], args := [d1, d2, d3] }
  | _ => none }
def VoteOneWrongFalsely : Prop := voteOneRow.holds Tryz.pinned (OpenSpec.ofChange voteOneWrong)

/-- 'forestaylaw.ReplicaTells': WHATEVER THE INPUT: true; the input reads as it did. -/
def replicaTellsSpec : ChangeSpec := { name := "replicaTells", fn := fun _ => fun
  | [d1, d2, d3] => { results := [.lit (.bool true)], args := [d1, d2, d3] }
  | _ => none }
def replicaTellsRow : OpenClaim := { program := "ytdhoodloklgokaagreatdoor", sum := "a900238c5f0e272bacccc33831bb1580dce360fa8ab74f212bf5020cc6e151ce", func := "forestay/forestaylaw.ReplicaTells", spec := "replicaTells", inPlace := ["slices.overlaps[forestay/api.Object]", "internal/bytealg.abigen_runtime_cmpstring", "slices.overlaps[forestay/api.Ref]", "internal/abi.NoEscape", "internal/bytealg.MakeNoZero"], unfollowed := true, recurses := true, named := ["internal/strconv.uint64pow10", "math/bits.deBruijn32tab", "math/bits.deBruijn64tab"], apart := false, laid := [("math/bits.deBruijn32tab", laid_math_bits_deBruijn32tab), ("math/bits.deBruijn64tab", laid_math_bits_deBruijn64tab), ("internal/strconv.uint64pow10", laid_internal_strconv_uint64pow10)] }
def ReplicaTellsSaid : Prop := replicaTellsRow.holds Tryz.pinned (OpenSpec.ofChange replicaTellsSpec)

/-- ITS FALSE NEIGHBOUR: 'it returns false'. Refute it at one input. -/
def replicaTellsWrong : ChangeSpec := { name := "replicaTells", fn := fun _ => fun
  | [d1, d2, d3] => { results := [.lit (.bool false)], args := [d1, d2, d3] }
  | _ => none }
def ReplicaTellsWrongFalsely : Prop := replicaTellsRow.holds Tryz.pinned (OpenSpec.ofChange replicaTellsWrong)

/-- 'forestaylaw.ReplicaApart': WHATEVER THE INPUT: true; the input reads as it did. -/
def replicaApartSpec : ChangeSpec := { name := "replicaApart", fn := fun _ => fun
  | [d1, d2] => { results := [.lit (.bool true)], args := [d1, d2] }
  | _ => none }
def replicaApartRow : OpenClaim := { program := "ytdhoodloklgokaagreatdoor", sum := "a900238c5f0e272bacccc33831bb1580dce360fa8ab74f212bf5020cc6e151ce", func := "forestay/forestaylaw.ReplicaApart", spec := "replicaApart", inPlace := ["slices.overlaps[forestay/api.Object]", "internal/bytealg.abigen_runtime_cmpstring", "slices.overlaps[forestay/api.Ref]", "internal/abi.NoEscape", "internal/bytealg.MakeNoZero"], unfollowed := true, recurses := true, named := ["internal/strconv.uint64pow10", "math/bits.deBruijn32tab", "math/bits.deBruijn64tab"], apart := false, laid := [("math/bits.deBruijn32tab", laid_math_bits_deBruijn32tab), ("math/bits.deBruijn64tab", laid_math_bits_deBruijn64tab), ("internal/strconv.uint64pow10", laid_internal_strconv_uint64pow10)] }
def ReplicaApartSaid : Prop := replicaApartRow.holds Tryz.pinned (OpenSpec.ofChange replicaApartSpec)

/-- ITS FALSE NEIGHBOUR: 'it returns false'. Refute it at one input. -/
def replicaApartWrong : ChangeSpec := { name := "replicaApart", fn := fun _ => fun
  | [d1, d2] => { results := [.lit (.bool false)], args := [d1, d2] }
  | _ => none }
def ReplicaApartWrongFalsely : Prop := replicaApartRow.holds Tryz.pinned (OpenSpec.ofChange replicaApartWrong)

/-- 'forestaylaw.ClusterTells': WHATEVER THE INPUT: true; the input reads as it did. -/
def clusterTellsSpec : ChangeSpec := { name := "clusterTells", fn := fun _ => fun
  | [d1, d2, d3, d4] => { results := [.lit (.bool true)], args := [d1, d2, d3, d4] }
  | _ => none }
def clusterTellsRow : OpenClaim := { program := "ytdhoodloklgokaagreatdoor", sum := "a900238c5f0e272bacccc33831bb1580dce360fa8ab74f212bf5020cc6e151ce", func := "forestay/forestaylaw.ClusterTells", spec := "clusterTells", inPlace := ["slices.overlaps[forestay/api.Object]", "internal/bytealg.abigen_runtime_cmpstring", "slices.overlaps[forestay/api.Ref]", "internal/abi.NoEscape", "internal/bytealg.MakeNoZero"], unfollowed := true, recurses := true, named := ["internal/strconv.uint64pow10", "math/bits.deBruijn32tab", "math/bits.deBruijn64tab"], apart := false, laid := [("math/bits.deBruijn32tab", laid_math_bits_deBruijn32tab), ("math/bits.deBruijn64tab", laid_math_bits_deBruijn64tab), ("internal/strconv.uint64pow10", laid_internal_strconv_uint64pow10)] }
def ClusterTellsSaid : Prop := clusterTellsRow.holds Tryz.pinned (OpenSpec.ofChange clusterTellsSpec)

/-- ITS FALSE NEIGHBOUR: 'it returns false'. Refute it at one input. -/
def clusterTellsWrong : ChangeSpec := { name := "clusterTells", fn := fun _ => fun
  | [d1, d2, d3, d4] => { results := [.lit (.bool false)], args := [d1, d2, d3, d4] }
  | _ => none }
def ClusterTellsWrongFalsely : Prop := clusterTellsRow.holds Tryz.pinned (OpenSpec.ofChange clusterTellsWrong)

/-- 'forestaylaw.ClusterSafe': WHATEVER THE INPUT: true; the input reads as it did. -/
def clusterSafeSpec : ChangeSpec := { name := "clusterSafe", fn := fun _ => fun
  | [d1, d2, d3, d4] => { results := [.lit (.bool true)], args := [d1, d2, d3, d4] }
  | _ => none }
def clusterSafeRow : OpenClaim := { program := "ytdhoodloklgokaagreatdoor", sum := "a900238c5f0e272bacccc33831bb1580dce360fa8ab74f212bf5020cc6e151ce", func := "forestay/forestaylaw.ClusterSafe", spec := "clusterSafe", inPlace := ["slices.overlaps[forestay/api.Object]", "internal/bytealg.abigen_runtime_cmpstring", "slices.overlaps[forestay/api.Ref]", "internal/abi.NoEscape", "internal/bytealg.MakeNoZero"], unfollowed := true, recurses := true, named := ["internal/strconv.uint64pow10", "math/bits.deBruijn32tab", "math/bits.deBruijn64tab"], apart := false, laid := [("math/bits.deBruijn32tab", laid_math_bits_deBruijn32tab), ("math/bits.deBruijn64tab", laid_math_bits_deBruijn64tab), ("internal/strconv.uint64pow10", laid_internal_strconv_uint64pow10)] }
def ClusterSafeSaid : Prop := clusterSafeRow.holds Tryz.pinned (OpenSpec.ofChange clusterSafeSpec)

/-- ITS FALSE NEIGHBOUR: 'it returns false'. Refute it at one input. -/
def clusterSafeWrong : ChangeSpec := { name := "clusterSafe", fn := fun _ => fun
  | [d1, d2, d3, d4] => { results := [.lit (.bool false)], args := [d1, d2, d3, d4] }
  | _ => none }
def ClusterSafeWrongFalsely : Prop := clusterSafeRow.holds Tryz.pinned (OpenSpec.ofChange clusterSafeWrong)

/-- 'forestaylaw.ClusterBits': WHATEVER THE INPUT: true; the input reads as it did. -/
def clusterBitsSpec : ChangeSpec := { name := "clusterBits", fn := fun _ => fun
  | [d1, d2, d3, d4] => { results := [.lit (.bool true)], args := [d1, d2, d3, d4] }
  | _ => none }
def clusterBitsRow : OpenClaim := { program := "ytdhoodloklgokaagreatdoor", sum := "a900238c5f0e272bacccc33831bb1580dce360fa8ab74f212bf5020cc6e151ce", func := "forestay/forestaylaw.ClusterBits", spec := "clusterBits", inPlace := ["slices.overlaps[forestay/api.Object]", "internal/bytealg.abigen_runtime_cmpstring", "slices.overlaps[forestay/api.Ref]", "internal/abi.NoEscape", "internal/bytealg.MakeNoZero"], unfollowed := true, recurses := true, named := ["internal/strconv.uint64pow10", "math/bits.deBruijn32tab", "math/bits.deBruijn64tab"], apart := false, laid := [("math/bits.deBruijn32tab", laid_math_bits_deBruijn32tab), ("math/bits.deBruijn64tab", laid_math_bits_deBruijn64tab), ("internal/strconv.uint64pow10", laid_internal_strconv_uint64pow10)] }
def ClusterBitsSaid : Prop := clusterBitsRow.holds Tryz.pinned (OpenSpec.ofChange clusterBitsSpec)

/-- ITS FALSE NEIGHBOUR: 'it returns false'. Refute it at one input. -/
def clusterBitsWrong : ChangeSpec := { name := "clusterBits", fn := fun _ => fun
  | [d1, d2, d3, d4] => { results := [.lit (.bool false)], args := [d1, d2, d3, d4] }
  | _ => none }
def ClusterBitsWrongFalsely : Prop := clusterBitsRow.holds Tryz.pinned (OpenSpec.ofChange clusterBitsWrong)

/-- 'forestaylaw.RepairAll': WHATEVER THE INPUT: true; the input reads as it did. -/
def repairAllSpec : ChangeSpec := { name := "repairAll", fn := fun _ => fun
  | [d] => { results := [.lit (.bool true)], args := [d] }
  | _ => none }
def repairAllRow : OpenClaim := { program := "ytdhoodloklgokaagreatdoor", sum := "a900238c5f0e272bacccc33831bb1580dce360fa8ab74f212bf5020cc6e151ce", func := "forestay/forestaylaw.RepairAll", spec := "repairAll", inPlace := ["slices.overlaps[forestay/api.Object]", "internal/bytealg.abigen_runtime_cmpstring", "slices.overlaps[forestay/api.Ref]", "internal/abi.NoEscape", "internal/bytealg.MakeNoZero"], unfollowed := true, recurses := true, named := ["internal/strconv.uint64pow10", "math/bits.deBruijn32tab", "math/bits.deBruijn64tab"], apart := false, laid := [("math/bits.deBruijn32tab", laid_math_bits_deBruijn32tab), ("math/bits.deBruijn64tab", laid_math_bits_deBruijn64tab), ("internal/strconv.uint64pow10", laid_internal_strconv_uint64pow10)] }
def RepairAllSaid : Prop := repairAllRow.holds Tryz.pinned (OpenSpec.ofChange repairAllSpec)

/-- ITS FALSE NEIGHBOUR: 'it returns false'. Refute it at one input. -/
def repairAllWrong : ChangeSpec := { name := "repairAll", fn := fun _ => fun
  | [d] => { results := [.lit (.bool false)], args := [d] }
  | _ => none }
def RepairAllWrongFalsely : Prop := repairAllRow.holds Tryz.pinned (OpenSpec.ofChange repairAllWrong)

/-- 'forestaylaw.DeskTells': WHATEVER THE INPUT: true; the input reads as it did. -/
def deskTellsSpec : ChangeSpec := { name := "deskTells", fn := fun _ => fun
  | [d1, d2] => { results := [.lit (.bool true)], args := [d1, d2] }
  | _ => none }
def deskTellsRow : OpenClaim := { program := "ytdhoodloklgokaagreatdoor", sum := "a900238c5f0e272bacccc33831bb1580dce360fa8ab74f212bf5020cc6e151ce", func := "forestay/forestaylaw.DeskTells", spec := "deskTells", inPlace := ["slices.overlaps[forestay/api.Object]", "internal/bytealg.abigen_runtime_cmpstring", "slices.overlaps[forestay/api.Ref]", "internal/abi.NoEscape", "internal/bytealg.MakeNoZero"], unfollowed := true, recurses := true, named := ["internal/strconv.uint64pow10", "math/bits.deBruijn32tab", "math/bits.deBruijn64tab"], apart := false, laid := [("math/bits.deBruijn32tab", laid_math_bits_deBruijn32tab), ("math/bits.deBruijn64tab", laid_math_bits_deBruijn64tab), ("internal/strconv.uint64pow10", laid_internal_strconv_uint64pow10)] }
def DeskTellsSaid : Prop := deskTellsRow.holds Tryz.pinned (OpenSpec.ofChange deskTellsSpec)

/-- ITS FALSE NEIGHBOUR: 'it returns false'. Refute it at one input. -/
def deskTellsWrong : ChangeSpec := { name := "deskTells", fn := fun _ => fun
  | [d1, d2] => { results := [.lit (.bool false)], args := [d1, d2] }
  | _ => none }
def DeskTellsWrongFalsely : Prop := deskTellsRow.holds Tryz.pinned (OpenSpec.ofChange deskTellsWrong)

/-- 'forestaylaw.DeskRuns': WHATEVER THE INPUT: true; the input reads as it did. -/
def deskRunsSpec : ChangeSpec := { name := "deskRuns", fn := fun _ => fun
  | [d] => { results := [.lit (.bool true)], args := [d] }
  | _ => none }
def deskRunsRow : OpenClaim := { program := "ytdhoodloklgokaagreatdoor", sum := "a900238c5f0e272bacccc33831bb1580dce360fa8ab74f212bf5020cc6e151ce", func := "forestay/forestaylaw.DeskRuns", spec := "deskRuns", inPlace := ["slices.overlaps[forestay/api.Object]", "internal/bytealg.abigen_runtime_cmpstring", "slices.overlaps[forestay/api.Ref]", "internal/abi.NoEscape", "internal/bytealg.MakeNoZero"], unfollowed := true, recurses := true, named := ["internal/strconv.uint64pow10", "math/bits.deBruijn32tab", "math/bits.deBruijn64tab"], apart := false, laid := [("math/bits.deBruijn32tab", laid_math_bits_deBruijn32tab), ("math/bits.deBruijn64tab", laid_math_bits_deBruijn64tab), ("internal/strconv.uint64pow10", laid_internal_strconv_uint64pow10)] }
def DeskRunsSaid : Prop := deskRunsRow.holds Tryz.pinned (OpenSpec.ofChange deskRunsSpec)

/-- ITS FALSE NEIGHBOUR: 'it returns false'. Refute it at one input. -/
def deskRunsWrong : ChangeSpec := { name := "deskRuns", fn := fun _ => fun
  | [d] => { results := [.lit (.bool false)], args := [d] }
  | _ => none }
def DeskRunsWrongFalsely : Prop := deskRunsRow.holds Tryz.pinned (OpenSpec.ofChange deskRunsWrong)

/-- 'forestaylaw.DeskStays': WHATEVER THE INPUT: true; the input reads as it did. -/
def deskStaysSpec : ChangeSpec := { name := "deskStays", fn := fun _ => fun
  | [d] => { results := [.lit (.bool true)], args := [d] }
  | _ => none }
def deskStaysRow : OpenClaim := { program := "ytdhoodloklgokaagreatdoor", sum := "a900238c5f0e272bacccc33831bb1580dce360fa8ab74f212bf5020cc6e151ce", func := "forestay/forestaylaw.DeskStays", spec := "deskStays", inPlace := ["slices.overlaps[forestay/api.Object]", "internal/bytealg.abigen_runtime_cmpstring", "slices.overlaps[forestay/api.Ref]", "internal/abi.NoEscape", "internal/bytealg.MakeNoZero"], unfollowed := true, recurses := true, named := ["internal/strconv.uint64pow10", "math/bits.deBruijn32tab", "math/bits.deBruijn64tab"], apart := false, laid := [("math/bits.deBruijn32tab", laid_math_bits_deBruijn32tab), ("math/bits.deBruijn64tab", laid_math_bits_deBruijn64tab), ("internal/strconv.uint64pow10", laid_internal_strconv_uint64pow10)] }
def DeskStaysSaid : Prop := deskStaysRow.holds Tryz.pinned (OpenSpec.ofChange deskStaysSpec)

/-- ITS FALSE NEIGHBOUR: 'it returns false'. Refute it at one input. -/
def deskStaysWrong : ChangeSpec := { name := "deskStays", fn := fun _ => fun
  | [d] => { results := [.lit (.bool false)], args := [d] }
  | _ => none }
def DeskStaysWrongFalsely : Prop := deskStaysRow.holds Tryz.pinned (OpenSpec.ofChange deskStaysWrong)

/-- 'forestaylaw.RestClusters': WHATEVER THE INPUT: true; the input reads as it did. -/
def restClustersSpec : ChangeSpec := { name := "restClusters", fn := fun _ => fun
  | [d1, d2] => { results := [.lit (.bool true)], args := [d1, d2] }
  | _ => none }
def restClustersRow : OpenClaim := { program := "ytdhoodloklgokaagreatdoor", sum := "a900238c5f0e272bacccc33831bb1580dce360fa8ab74f212bf5020cc6e151ce", func := "forestay/forestaylaw.RestClusters", spec := "restClusters", inPlace := ["slices.overlaps[forestay/api.Object]", "internal/bytealg.abigen_runtime_cmpstring", "slices.overlaps[forestay/api.Ref]", "internal/abi.NoEscape", "internal/bytealg.MakeNoZero"], unfollowed := true, recurses := true, named := ["internal/strconv.uint64pow10", "math/bits.deBruijn32tab", "math/bits.deBruijn64tab"], apart := false, laid := [("math/bits.deBruijn32tab", laid_math_bits_deBruijn32tab), ("math/bits.deBruijn64tab", laid_math_bits_deBruijn64tab), ("internal/strconv.uint64pow10", laid_internal_strconv_uint64pow10)] }
def RestClustersSaid : Prop := restClustersRow.holds Tryz.pinned (OpenSpec.ofChange restClustersSpec)

/-- ITS FALSE NEIGHBOUR: 'it returns false'. Refute it at one input. -/
def restClustersWrong : ChangeSpec := { name := "restClusters", fn := fun _ => fun
  | [d1, d2] => { results := [.lit (.bool false)], args := [d1, d2] }
  | _ => none }
def RestClustersWrongFalsely : Prop := restClustersRow.holds Tryz.pinned (OpenSpec.ofChange restClustersWrong)

/-- 'forestaylaw.VoteSame': WHATEVER THE INPUT: true; the input reads as it did. -/
def voteSameSpec : ChangeSpec := { name := "voteSame", fn := fun _ => fun
  | [d1, d2, d3] => { results := [.lit (.bool true)], args := [d1, d2, d3] }
  | _ => none }
def voteSameRow : OpenClaim := { program := "ytdhoodloklgokaagreatdoor", sum := "a900238c5f0e272bacccc33831bb1580dce360fa8ab74f212bf5020cc6e151ce", func := "forestay/forestaylaw.VoteSame", spec := "voteSame", inPlace := ["slices.overlaps[forestay/api.Object]", "internal/bytealg.abigen_runtime_cmpstring", "slices.overlaps[forestay/api.Ref]", "internal/abi.NoEscape", "internal/bytealg.MakeNoZero"], unfollowed := true, recurses := true, named := ["internal/strconv.uint64pow10", "math/bits.deBruijn32tab", "math/bits.deBruijn64tab"], apart := false, laid := [("math/bits.deBruijn32tab", laid_math_bits_deBruijn32tab), ("math/bits.deBruijn64tab", laid_math_bits_deBruijn64tab), ("internal/strconv.uint64pow10", laid_internal_strconv_uint64pow10)] }
def VoteSameSaid : Prop := voteSameRow.holds Tryz.pinned (OpenSpec.ofChange voteSameSpec)

/-- ITS FALSE NEIGHBOUR: 'it returns false'. Refute it at one input. -/
def voteSameWrong : ChangeSpec := { name := "voteSame", fn := fun _ => fun
  | [d1, d2, d3] => { results := [.lit (.bool false)], args := [d1, d2, d3] }
  | _ => none }
def VoteSameWrongFalsely : Prop := voteSameRow.holds Tryz.pinned (OpenSpec.ofChange voteSameWrong)

/-- 'forestaylaw.ReplicaSteps': WHATEVER THE INPUT: true; the input reads as it did. -/
def replicaStepsSpec : ChangeSpec := { name := "replicaSteps", fn := fun _ => fun
  | [d1, d2] => { results := [.lit (.bool true)], args := [d1, d2] }
  | _ => none }
def replicaStepsRow : OpenClaim := { program := "ytdhoodloklgokaagreatdoor", sum := "a900238c5f0e272bacccc33831bb1580dce360fa8ab74f212bf5020cc6e151ce", func := "forestay/forestaylaw.ReplicaSteps", spec := "replicaSteps", inPlace := ["slices.overlaps[forestay/api.Object]", "internal/bytealg.abigen_runtime_cmpstring", "slices.overlaps[forestay/api.Ref]", "internal/abi.NoEscape", "internal/bytealg.MakeNoZero"], unfollowed := true, recurses := true, named := ["internal/strconv.uint64pow10", "math/bits.deBruijn32tab", "math/bits.deBruijn64tab"], apart := false, laid := [("math/bits.deBruijn32tab", laid_math_bits_deBruijn32tab), ("math/bits.deBruijn64tab", laid_math_bits_deBruijn64tab), ("internal/strconv.uint64pow10", laid_internal_strconv_uint64pow10)] }
def ReplicaStepsSaid : Prop := replicaStepsRow.holds Tryz.pinned (OpenSpec.ofChange replicaStepsSpec)

/-- ITS FALSE NEIGHBOUR: 'it returns false'. Refute it at one input. -/
def replicaStepsWrong : ChangeSpec := { name := "replicaSteps", fn := fun _ => fun
  | [d1, d2] => { results := [.lit (.bool false)], args := [d1, d2] }
  | _ => none }
def ReplicaStepsWrongFalsely : Prop := replicaStepsRow.holds Tryz.pinned (OpenSpec.ofChange replicaStepsWrong)

/- THE SECOND FORM. 'bulk': how many values and letters a reading holds, each counted each time it is reached (what is shared counts as often as it is met; a slice's spare places count too). A statement '..UptoSaid' is the law's where the arguments, and the package variables that the reading takes, are together of bulk at most 1048576: NARROWER than '..Said'. Prove '..Said' where nothing that the law and all that it calls make is longer than what came in: it says more and counts as full. Else prove '..UptoSaid'. A law counts once. -/
mutual
def uptoBulk {H : Type} : DataW H → Nat
  | .lit (.string bytes) => bytes.length + 1
  | .lit _ => 1
  | .nil => 1
  | .ptr d => uptoBulk d + 1
  | .slice elems spare => uptoBulkAll elems + uptoBulkAll spare + 1
  | .agg parts => uptoBulkAll parts + 1
  | .iface _ d => uptoBulk d + 1
  | .map entries => uptoBulkEntries entries + 1
  | .held _ => 1
def uptoBulkAll {H : Type} : List (DataW H) → Nat
  | [] => 0
  | d :: r => uptoBulk d + uptoBulkAll r
def uptoBulkEntries {H : Type} : List (Lit × DataW H) → Nat
  | [] => 0
  | x :: r => uptoBulkEntry x + uptoBulkEntries r
def uptoBulkEntry {H : Type} : Lit × DataW H → Nat
  | (.string bytes, d) => bytes.length + uptoBulk d + 1
  | (_, d) => uptoBulk d + 1
 end
def uptoSmall : (H : Type) → List (DataW H) → Bool := fun _ ds => decide (uptoBulkAll ds ≤ 1048576)
def OpenSpec.upto (s : _root_.Go.ChangeSpec) : _root_.Go.OpenSpec := { _root_.Go.OpenSpec.ofChange s with cond := some uptoSmall }

/-- 'forestaylaw.RestStores', WHERE WHAT IT READS IS OF BULK AT MOST 1048576: true; the input reads as it did. -/
def restStoresUptoRow : OpenClaim := { program := "ytdhoodloklgokaagreatdoor", sum := "a900238c5f0e272bacccc33831bb1580dce360fa8ab74f212bf5020cc6e151ce", func := "forestay/forestaylaw.RestStores", spec := "restStores", inPlace := ["slices.overlaps[forestay/api.Object]", "internal/bytealg.abigen_runtime_cmpstring", "slices.overlaps[forestay/api.Ref]", "internal/abi.NoEscape", "internal/bytealg.MakeNoZero"], unfollowed := true, recurses := true, named := ["internal/strconv.uint64pow10", "math/bits.deBruijn32tab", "math/bits.deBruijn64tab"], apart := false, laid := [("math/bits.deBruijn32tab", laid_math_bits_deBruijn32tab), ("math/bits.deBruijn64tab", laid_math_bits_deBruijn64tab), ("internal/strconv.uint64pow10", laid_internal_strconv_uint64pow10)], narrowed := true }
def RestStoresUptoSaid : Prop := restStoresUptoRow.holds Tryz.pinned (OpenSpec.upto restStoresSpec)

/-- 'forestaylaw.VoteTells', WHERE WHAT IT READS IS OF BULK AT MOST 1048576: true; the input reads as it did. -/
def voteTellsUptoRow : OpenClaim := { program := "ytdhoodloklgokaagreatdoor", sum := "a900238c5f0e272bacccc33831bb1580dce360fa8ab74f212bf5020cc6e151ce", func := "forestay/forestaylaw.VoteTells", spec := "voteTells", inPlace := ["slices.overlaps[forestay/api.Object]", "internal/bytealg.abigen_runtime_cmpstring", "slices.overlaps[forestay/api.Ref]", "internal/abi.NoEscape", "internal/bytealg.MakeNoZero"], unfollowed := true, recurses := true, named := ["internal/strconv.uint64pow10", "math/bits.deBruijn32tab", "math/bits.deBruijn64tab"], apart := false, laid := [("math/bits.deBruijn32tab", laid_math_bits_deBruijn32tab), ("math/bits.deBruijn64tab", laid_math_bits_deBruijn64tab), ("internal/strconv.uint64pow10", laid_internal_strconv_uint64pow10)], narrowed := true }
def VoteTellsUptoSaid : Prop := voteTellsUptoRow.holds Tryz.pinned (OpenSpec.upto voteTellsSpec)

/-- 'forestaylaw.VoteOne', WHERE WHAT IT READS IS OF BULK AT MOST 1048576: true; the input reads as it did. -/
def voteOneUptoRow : OpenClaim := { program := "ytdhoodloklgokaagreatdoor", sum := "a900238c5f0e272bacccc33831bb1580dce360fa8ab74f212bf5020cc6e151ce", func := "forestay/forestaylaw.VoteOne", spec := "voteOne", inPlace := ["slices.overlaps[forestay/api.Object]", "internal/bytealg.abigen_runtime_cmpstring", "slices.overlaps[forestay/api.Ref]", "internal/abi.NoEscape", "internal/bytealg.MakeNoZero"], unfollowed := true, recurses := true, named := ["internal/strconv.uint64pow10", "math/bits.deBruijn32tab", "math/bits.deBruijn64tab"], apart := false, laid := [("math/bits.deBruijn32tab", laid_math_bits_deBruijn32tab), ("math/bits.deBruijn64tab", laid_math_bits_deBruijn64tab), ("internal/strconv.uint64pow10", laid_internal_strconv_uint64pow10)], narrowed := true }
def VoteOneUptoSaid : Prop := voteOneUptoRow.holds Tryz.pinned (OpenSpec.upto voteOneSpec)

/-- 'forestaylaw.ReplicaTells', WHERE WHAT IT READS IS OF BULK AT MOST 1048576: true; the input reads as it did. -/
def replicaTellsUptoRow : OpenClaim := { program := "ytdhoodloklgokaagreatdoor", sum := "a900238c5f0e272bacccc33831bb1580dce360fa8ab74f212bf5020cc6e151ce", func := "forestay/forestaylaw.ReplicaTells", spec := "replicaTells", inPlace := ["slices.overlaps[forestay/api.Object]", "internal/bytealg.abigen_runtime_cmpstring", "slices.overlaps[forestay/api.Ref]", "internal/abi.NoEscape", "internal/bytealg.MakeNoZero"], unfollowed := true, recurses := true, named := ["internal/strconv.uint64pow10", "math/bits.deBruijn32tab", "math/bits.deBruijn64tab"], apart := false, laid := [("math/bits.deBruijn32tab", laid_math_bits_deBruijn32tab), ("math/bits.deBruijn64tab", laid_math_bits_deBruijn64tab), ("internal/strconv.uint64pow10", laid_internal_strconv_uint64pow10)], narrowed := true }
def ReplicaTellsUptoSaid : Prop := replicaTellsUptoRow.holds Tryz.pinned (OpenSpec.upto replicaTellsSpec)

/-- 'forestaylaw.ReplicaApart', WHERE WHAT IT READS IS OF BULK AT MOST 1048576: true; the input reads as it did. -/
def replicaApartUptoRow : OpenClaim := { program := "ytdhoodloklgokaagreatdoor", sum := "a900238c5f0e272bacccc33831bb1580dce360fa8ab74f212bf5020cc6e151ce", func := "forestay/forestaylaw.ReplicaApart", spec := "replicaApart", inPlace := ["slices.overlaps[forestay/api.Object]", "internal/bytealg.abigen_runtime_cmpstring", "slices.overlaps[forestay/api.Ref]", "internal/abi.NoEscape", "internal/bytealg.MakeNoZero"], unfollowed := true, recurses := true, named := ["internal/strconv.uint64pow10", "math/bits.deBruijn32tab", "math/bits.deBruijn64tab"], apart := false, laid := [("math/bits.deBruijn32tab", laid_math_bits_deBruijn32tab), ("math/bits.deBruijn64tab", laid_math_bits_deBruijn64tab), ("internal/strconv.uint64pow10", laid_internal_strconv_uint64pow10)], narrowed := true }
def ReplicaApartUptoSaid : Prop := replicaApartUptoRow.holds Tryz.pinned (OpenSpec.upto replicaApartSpec)

/-- 'forestaylaw.ClusterTells', WHERE WHAT IT READS IS OF BULK AT MOST 1048576: true; the input reads as it did. -/
def clusterTellsUptoRow : OpenClaim := { program := "ytdhoodloklgokaagreatdoor", sum := "a900238c5f0e272bacccc33831bb1580dce360fa8ab74f212bf5020cc6e151ce", func := "forestay/forestaylaw.ClusterTells", spec := "clusterTells", inPlace := ["slices.overlaps[forestay/api.Object]", "internal/bytealg.abigen_runtime_cmpstring", "slices.overlaps[forestay/api.Ref]", "internal/abi.NoEscape", "internal/bytealg.MakeNoZero"], unfollowed := true, recurses := true, named := ["internal/strconv.uint64pow10", "math/bits.deBruijn32tab", "math/bits.deBruijn64tab"], apart := false, laid := [("math/bits.deBruijn32tab", laid_math_bits_deBruijn32tab), ("math/bits.deBruijn64tab", laid_math_bits_deBruijn64tab), ("internal/strconv.uint64pow10", laid_internal_strconv_uint64pow10)], narrowed := true }
def ClusterTellsUptoSaid : Prop := clusterTellsUptoRow.holds Tryz.pinned (OpenSpec.upto clusterTellsSpec)

/-- 'forestaylaw.ClusterSafe', WHERE WHAT IT READS IS OF BULK AT MOST 1048576: true; the input reads as it did. -/
def clusterSafeUptoRow : OpenClaim := { program := "ytdhoodloklgokaagreatdoor", sum := "a900238c5f0e272bacccc33831bb1580dce360fa8ab74f212bf5020cc6e151ce", func := "forestay/forestaylaw.ClusterSafe", spec := "clusterSafe", inPlace := ["slices.overlaps[forestay/api.Object]", "internal/bytealg.abigen_runtime_cmpstring", "slices.overlaps[forestay/api.Ref]", "internal/abi.NoEscape", "internal/bytealg.MakeNoZero"], unfollowed := true, recurses := true, named := ["internal/strconv.uint64pow10", "math/bits.deBruijn32tab", "math/bits.deBruijn64tab"], apart := false, laid := [("math/bits.deBruijn32tab", laid_math_bits_deBruijn32tab), ("math/bits.deBruijn64tab", laid_math_bits_deBruijn64tab), ("internal/strconv.uint64pow10", laid_internal_strconv_uint64pow10)], narrowed := true }
def ClusterSafeUptoSaid : Prop := clusterSafeUptoRow.holds Tryz.pinned (OpenSpec.upto clusterSafeSpec)

/-- 'forestaylaw.ClusterBits', WHERE WHAT IT READS IS OF BULK AT MOST 1048576: true; the input reads as it did. -/
def clusterBitsUptoRow : OpenClaim := { program := "ytdhoodloklgokaagreatdoor", sum := "a900238c5f0e272bacccc33831bb1580dce360fa8ab74f212bf5020cc6e151ce", func := "forestay/forestaylaw.ClusterBits", spec := "clusterBits", inPlace := ["slices.overlaps[forestay/api.Object]", "internal/bytealg.abigen_runtime_cmpstring", "slices.overlaps[forestay/api.Ref]", "internal/abi.NoEscape", "internal/bytealg.MakeNoZero"], unfollowed := true, recurses := true, named := ["internal/strconv.uint64pow10", "math/bits.deBruijn32tab", "math/bits.deBruijn64tab"], apart := false, laid := [("math/bits.deBruijn32tab", laid_math_bits_deBruijn32tab), ("math/bits.deBruijn64tab", laid_math_bits_deBruijn64tab), ("internal/strconv.uint64pow10", laid_internal_strconv_uint64pow10)], narrowed := true }
def ClusterBitsUptoSaid : Prop := clusterBitsUptoRow.holds Tryz.pinned (OpenSpec.upto clusterBitsSpec)

/-- 'forestaylaw.RepairAll', WHERE WHAT IT READS IS OF BULK AT MOST 1048576: true; the input reads as it did. -/
def repairAllUptoRow : OpenClaim := { program := "ytdhoodloklgokaagreatdoor", sum := "a900238c5f0e272bacccc33831bb1580dce360fa8ab74f212bf5020cc6e151ce", func := "forestay/forestaylaw.RepairAll", spec := "repairAll", inPlace := ["slices.overlaps[forestay/api.Object]", "internal/bytealg.abigen_runtime_cmpstring", "slices.overlaps[forestay/api.Ref]", "internal/abi.NoEscape", "internal/bytealg.MakeNoZero"], unfollowed := true, recurses := true, named := ["internal/strconv.uint64pow10", "math/bits.deBruijn32tab", "math/bits.deBruijn64tab"], apart := false, laid := [("math/bits.deBruijn32tab", laid_math_bits_deBruijn32tab), ("math/bits.deBruijn64tab", laid_math_bits_deBruijn64tab), ("internal/strconv.uint64pow10", laid_internal_strconv_uint64pow10)], narrowed := true }
def RepairAllUptoSaid : Prop := repairAllUptoRow.holds Tryz.pinned (OpenSpec.upto repairAllSpec)

/-- 'forestaylaw.DeskTells', WHERE WHAT IT READS IS OF BULK AT MOST 1048576: true; the input reads as it did. -/
def deskTellsUptoRow : OpenClaim := { program := "ytdhoodloklgokaagreatdoor", sum := "a900238c5f0e272bacccc33831bb1580dce360fa8ab74f212bf5020cc6e151ce", func := "forestay/forestaylaw.DeskTells", spec := "deskTells", inPlace := ["slices.overlaps[forestay/api.Object]", "internal/bytealg.abigen_runtime_cmpstring", "slices.overlaps[forestay/api.Ref]", "internal/abi.NoEscape", "internal/bytealg.MakeNoZero"], unfollowed := true, recurses := true, named := ["internal/strconv.uint64pow10", "math/bits.deBruijn32tab", "math/bits.deBruijn64tab"], apart := false, laid := [("math/bits.deBruijn32tab", laid_math_bits_deBruijn32tab), ("math/bits.deBruijn64tab", laid_math_bits_deBruijn64tab), ("internal/strconv.uint64pow10", laid_internal_strconv_uint64pow10)], narrowed := true }
def DeskTellsUptoSaid : Prop := deskTellsUptoRow.holds Tryz.pinned (OpenSpec.upto deskTellsSpec)

/-- 'forestaylaw.DeskRuns', WHERE WHAT IT READS IS OF BULK AT MOST 1048576: true; the input reads as it did. -/
def deskRunsUptoRow : OpenClaim := { program := "ytdhoodloklgokaagreatdoor", sum := "a900238c5f0e272bacccc33831bb1580dce360fa8ab74f212bf5020cc6e151ce", func := "forestay/forestaylaw.DeskRuns", spec := "deskRuns", inPlace := ["slices.overlaps[forestay/api.Object]", "internal/bytealg.abigen_runtime_cmpstring", "slices.overlaps[forestay/api.Ref]", "internal/abi.NoEscape", "internal/bytealg.MakeNoZero"], unfollowed := true, recurses := true, named := ["internal/strconv.uint64pow10", "math/bits.deBruijn32tab", "math/bits.deBruijn64tab"], apart := false, laid := [("math/bits.deBruijn32tab", laid_math_bits_deBruijn32tab), ("math/bits.deBruijn64tab", laid_math_bits_deBruijn64tab), ("internal/strconv.uint64pow10", laid_internal_strconv_uint64pow10)], narrowed := true }
def DeskRunsUptoSaid : Prop := deskRunsUptoRow.holds Tryz.pinned (OpenSpec.upto deskRunsSpec)

/-- 'forestaylaw.DeskStays', WHERE WHAT IT READS IS OF BULK AT MOST 1048576: true; the input reads as it did. -/
def deskStaysUptoRow : OpenClaim := { program := "ytdhoodloklgokaagreatdoor", sum := "a900238c5f0e272bacccc33831bb1580dce360fa8ab74f212bf5020cc6e151ce", func := "forestay/forestaylaw.DeskStays", spec := "deskStays", inPlace := ["slices.overlaps[forestay/api.Object]", "internal/bytealg.abigen_runtime_cmpstring", "slices.overlaps[forestay/api.Ref]", "internal/abi.NoEscape", "internal/bytealg.MakeNoZero"], unfollowed := true, recurses := true, named := ["internal/strconv.uint64pow10", "math/bits.deBruijn32tab", "math/bits.deBruijn64tab"], apart := false, laid := [("math/bits.deBruijn32tab", laid_math_bits_deBruijn32tab), ("math/bits.deBruijn64tab", laid_math_bits_deBruijn64tab), ("internal/strconv.uint64pow10", laid_internal_strconv_uint64pow10)], narrowed := true }
def DeskStaysUptoSaid : Prop := deskStaysUptoRow.holds Tryz.pinned (OpenSpec.upto deskStaysSpec)

/-- 'forestaylaw.RestClusters', WHERE WHAT IT READS IS OF BULK AT MOST 1048576: true; the input reads as it did. -/
def restClustersUptoRow : OpenClaim := { program := "ytdhoodloklgokaagreatdoor", sum := "a900238c5f0e272bacccc33831bb1580dce360fa8ab74f212bf5020cc6e151ce", func := "forestay/forestaylaw.RestClusters", spec := "restClusters", inPlace := ["slices.overlaps[forestay/api.Object]", "internal/bytealg.abigen_runtime_cmpstring", "slices.overlaps[forestay/api.Ref]", "internal/abi.NoEscape", "internal/bytealg.MakeNoZero"], unfollowed := true, recurses := true, named := ["internal/strconv.uint64pow10", "math/bits.deBruijn32tab", "math/bits.deBruijn64tab"], apart := false, laid := [("math/bits.deBruijn32tab", laid_math_bits_deBruijn32tab), ("math/bits.deBruijn64tab", laid_math_bits_deBruijn64tab), ("internal/strconv.uint64pow10", laid_internal_strconv_uint64pow10)], narrowed := true }
def RestClustersUptoSaid : Prop := restClustersUptoRow.holds Tryz.pinned (OpenSpec.upto restClustersSpec)

/-- 'forestaylaw.VoteSame', WHERE WHAT IT READS IS OF BULK AT MOST 1048576: true; the input reads as it did. -/
def voteSameUptoRow : OpenClaim := { program := "ytdhoodloklgokaagreatdoor", sum := "a900238c5f0e272bacccc33831bb1580dce360fa8ab74f212bf5020cc6e151ce", func := "forestay/forestaylaw.VoteSame", spec := "voteSame", inPlace := ["slices.overlaps[forestay/api.Object]", "internal/bytealg.abigen_runtime_cmpstring", "slices.overlaps[forestay/api.Ref]", "internal/abi.NoEscape", "internal/bytealg.MakeNoZero"], unfollowed := true, recurses := true, named := ["internal/strconv.uint64pow10", "math/bits.deBruijn32tab", "math/bits.deBruijn64tab"], apart := false, laid := [("math/bits.deBruijn32tab", laid_math_bits_deBruijn32tab), ("math/bits.deBruijn64tab", laid_math_bits_deBruijn64tab), ("internal/strconv.uint64pow10", laid_internal_strconv_uint64pow10)], narrowed := true }
def VoteSameUptoSaid : Prop := voteSameUptoRow.holds Tryz.pinned (OpenSpec.upto voteSameSpec)

/-- 'forestaylaw.ReplicaSteps', WHERE WHAT IT READS IS OF BULK AT MOST 1048576: true; the input reads as it did. -/
def replicaStepsUptoRow : OpenClaim := { program := "ytdhoodloklgokaagreatdoor", sum := "a900238c5f0e272bacccc33831bb1580dce360fa8ab74f212bf5020cc6e151ce", func := "forestay/forestaylaw.ReplicaSteps", spec := "replicaSteps", inPlace := ["slices.overlaps[forestay/api.Object]", "internal/bytealg.abigen_runtime_cmpstring", "slices.overlaps[forestay/api.Ref]", "internal/abi.NoEscape", "internal/bytealg.MakeNoZero"], unfollowed := true, recurses := true, named := ["internal/strconv.uint64pow10", "math/bits.deBruijn32tab", "math/bits.deBruijn64tab"], apart := false, laid := [("math/bits.deBruijn32tab", laid_math_bits_deBruijn32tab), ("math/bits.deBruijn64tab", laid_math_bits_deBruijn64tab), ("internal/strconv.uint64pow10", laid_internal_strconv_uint64pow10)], narrowed := true }
def ReplicaStepsUptoSaid : Prop := replicaStepsUptoRow.holds Tryz.pinned (OpenSpec.upto replicaStepsSpec)

end Rows
end Go.Proofs.YtdhoodloklgokaaGreatDoor
