/-
  No cell of these rows narrows 'for every input' (looked for: loops, veiled, ifaces, maps, wideKeys, modest, calm, conditions, laid).
  DERIVED. THE GIVEN ROWS OF THIS SEAT. 4 by the template 'for every input the law returns true; each argument reads behind the call as it read before'; 0 by the template 'total and deterministic' (their statements: YtjkbaallfkjmhaaTotals.lean).
  GIVEN WITH THE SEED: the statements are not yours to turn. If you find one false, say at which input.
  Laid BY PROGRAM, IN A SANDBOX (cutbox-rows.mjs): the forced cells as the released guide's own fill.sh prints them over the translation cd5eeddb89e0423b… (all of the seat's roots in one cut). By AI agents, Wed Nov 11 2026. No macro, syntax, notation, axiom, sorry.
-/
import Derived.Test.YtjkbaallfkjmhaaChecked
import GoSem.Claim
import GoSem.ClaimJoined
import GoSem.ClaimMapViews
import Derived.JoinedTies
import Derived.KernelRfl
namespace Go.Proofs.Ytjkbaallfkjmhaa
/- THE CELL 'sum', in the pinned program and in every row, IS THE sha256 OF THE DUMP (.gsa) THAT YtjkbaallfkjmhaaProg.lean LOADS. Nothing in Lean hashes anything: it is a label: what it is worth is what the hold of that sum in a sandbox is worth. -/
noncomputable def Try.pinned : Pinned := { name := "ytjkbaallfkjmhaa", sum := "cd5eeddb89e0423bb5b9bc3fc778590250adc709c72cb859641c81918224a951", checked := Try.checked }
namespace Rows
def none {H : Type} : Left H := { results := [], args := [] }

/-- 'forestaylaw.RepairTells': WHATEVER THE INPUT: true; the input reads as it did. -/
def repairTellsSpec : ChangeSpec := { name := "repairTells", fn := fun _ => fun
  | [d1, d2, d3] => { results := [.lit (.bool true)], args := [d1, d2, d3] }
  | _ => none }
def repairTellsRow : OpenClaim := { program := "ytjkbaallfkjmhaa", sum := "cd5eeddb89e0423bb5b9bc3fc778590250adc709c72cb859641c81918224a951", func := "forestay/forestaylaw.RepairTells", spec := "repairTells", inPlace := ["slices.overlaps[forestay/api.Object]"], unfollowed := true, recurses := true, apart := false }
def RepairTellsSaid : Prop := repairTellsRow.holds Try.pinned (OpenSpec.ofChange repairTellsSpec)

/-- ITS FALSE NEIGHBOUR: 'it returns false'. Refute it at one input. -/
def repairTellsWrong : ChangeSpec := { name := "repairTells", fn := fun _ => fun
  | [d1, d2, d3] => { results := [.lit (.bool false)], args := [d1, d2, d3] }
  | _ => none }
def RepairTellsWrongFalsely : Prop := repairTellsRow.holds Try.pinned (OpenSpec.ofChange repairTellsWrong)

/-- 'forestaylaw.RepairSame': WHATEVER THE INPUT: true; the input reads as it did. -/
def repairSameSpec : ChangeSpec := { name := "repairSame", fn := fun _ => fun
  | [d1, d2] => { results := [.lit (.bool true)], args := [d1, d2] }
  | _ => none }
def repairSameRow : OpenClaim := { program := "ytjkbaallfkjmhaa", sum := "cd5eeddb89e0423bb5b9bc3fc778590250adc709c72cb859641c81918224a951", func := "forestay/forestaylaw.RepairSame", spec := "repairSame", inPlace := ["slices.overlaps[forestay/api.Object]"], unfollowed := true, recurses := true, apart := false }
def RepairSameSaid : Prop := repairSameRow.holds Try.pinned (OpenSpec.ofChange repairSameSpec)

/-- ITS FALSE NEIGHBOUR: 'it returns false'. Refute it at one input. -/
def repairSameWrong : ChangeSpec := { name := "repairSame", fn := fun _ => fun
  | [d1, d2] => { results := [.lit (.bool false)], args := [d1, d2] }
  | _ => none }
def RepairSameWrongFalsely : Prop := repairSameRow.holds Try.pinned (OpenSpec.ofChange repairSameWrong)

/-- 'forestaylaw.DiffTells': WHATEVER THE INPUT: true; the input reads as it did. -/
def diffTellsSpec : ChangeSpec := { name := "diffTells", fn := fun _ => fun
  | [d1, d2, d3, d4] => { results := [.lit (.bool true)], args := [d1, d2, d3, d4] }
  | _ => none }
def diffTellsRow : OpenClaim := { program := "ytjkbaallfkjmhaa", sum := "cd5eeddb89e0423bb5b9bc3fc778590250adc709c72cb859641c81918224a951", func := "forestay/forestaylaw.DiffTells", spec := "diffTells", inPlace := ["internal/bytealg.abigen_runtime_cmpstring"], unfollowed := true, recurses := true, apart := false }
def DiffTellsSaid : Prop := diffTellsRow.holds Try.pinned (OpenSpec.ofChange diffTellsSpec)

/-- ITS FALSE NEIGHBOUR: 'it returns false'. Refute it at one input. -/
def diffTellsWrong : ChangeSpec := { name := "diffTells", fn := fun _ => fun
  | [d1, d2, d3, d4] => { results := [.lit (.bool false)], args := [d1, d2, d3, d4] }
  | _ => none }
def DiffTellsWrongFalsely : Prop := diffTellsRow.holds Try.pinned (OpenSpec.ofChange diffTellsWrong)

/-- 'forestaylaw.DiffWhole': WHATEVER THE INPUT: true; the input reads as it did. -/
def diffWholeSpec : ChangeSpec := { name := "diffWhole", fn := fun _ => fun
  | [d1, d2] => { results := [.lit (.bool true)], args := [d1, d2] }
  | _ => none }
def diffWholeRow : OpenClaim := { program := "ytjkbaallfkjmhaa", sum := "cd5eeddb89e0423bb5b9bc3fc778590250adc709c72cb859641c81918224a951", func := "forestay/forestaylaw.DiffWhole", spec := "diffWhole", inPlace := ["internal/bytealg.abigen_runtime_cmpstring", "slices.overlaps[forestay/api.Object]"], unfollowed := true, recurses := true, apart := false }
def DiffWholeSaid : Prop := diffWholeRow.holds Try.pinned (OpenSpec.ofChange diffWholeSpec)

/-- ITS FALSE NEIGHBOUR: 'it returns false'. Refute it at one input. -/
def diffWholeWrong : ChangeSpec := { name := "diffWhole", fn := fun _ => fun
  | [d1, d2] => { results := [.lit (.bool false)], args := [d1, d2] }
  | _ => none }
def DiffWholeWrongFalsely : Prop := diffWholeRow.holds Try.pinned (OpenSpec.ofChange diffWholeWrong)

/- THE SECOND FORM. 'bulk': how many values and letters a reading holds, each counted each time it is reached (what is shared counts as often as it is met; a slice's spare places count too). A statement '..UptoSaid' is the law's where the arguments, and the package variables that the reading takes, are together of bulk at most 1048576: NARROWER than '..Said'. Prove '..Said' where nothing that the law and all that it calls make is longer than what came in: it says more and counts as full. Else prove '..UptoSaid'. A law counts once. -/
mutual
def uptoBulk {H : Type} : DataW H → Nat
  | .lit (.string bytes) => bytes.length + 1
  | .lit _ => 1
  | .nil => 1
  | .ptr d => uptoBulk d + 1
  | .slice elems spare => uptoBulkAll elems + uptoBulkAll spare + 1
  | .agg parts => uptoBulkAll parts + 1
  | .iface _ d => uptoBulk d + 1
  | .map entries => uptoBulkEntries entries + 1
  | .held _ => 1
def uptoBulkAll {H : Type} : List (DataW H) → Nat
  | [] => 0
  | d :: r => uptoBulk d + uptoBulkAll r
def uptoBulkEntries {H : Type} : List (Lit × DataW H) → Nat
  | [] => 0
  | x :: r => uptoBulkEntry x + uptoBulkEntries r
def uptoBulkEntry {H : Type} : Lit × DataW H → Nat
  | (.string bytes, d) => bytes.length + uptoBulk d + 1
  | (_, d) => uptoBulk d + 1
 end
def uptoSmall : (H : Type) → List (DataW H) → Bool := fun _ ds => decide (uptoBulkAll ds ≤ 1048576)
def OpenSpec.upto (s : _root_.Go.ChangeSpec) : _root_.Go.OpenSpec := { _root_.Go.OpenSpec.ofChange s with cond := some uptoSmall }

/-- 'forestaylaw.RepairTells', WHERE WHAT IT READS IS OF BULK AT MOST 1048576: true; the input reads as it did. -/
def repairTellsUptoRow : OpenClaim := { program := "ytjkbaallfkjmhaa", sum := "cd5eeddb89e0423bb5b9bc3fc778590250adc709c72cb859641c81918224a951", func := "forestay/forestaylaw.RepairTells", spec := "repairTells", inPlace := ["slices.overlaps[forestay/api.Object]"], unfollowed := true, recurses := true, apart := false, narrowed := true }
def RepairTellsUptoSaid : Prop := repairTellsUptoRow.holds Try.pinned (OpenSpec.upto repairTellsSpec)

/-- 'forestaylaw.RepairSame', WHERE WHAT IT READS IS OF BULK AT MOST 1048576: true; the input reads as it did. -/
def repairSameUptoRow : OpenClaim := { program := "ytjkbaallfkjmhaa", sum := "cd5eeddb89e0423bb5b9bc3fc778590250adc709c72cb859641c81918224a951", func := "forestay/forestaylaw.RepairSame", spec := "repairSame", inPlace := ["slices.overlaps[forestay/api.Object]"], unfollowed := true, recurses := true, apart := false, narrowed := true }
def RepairSameUptoSaid : Prop := repairSameUptoRow.holds Try.pinned (OpenSpec.upto repairSameSpec)

/-- 'forestaylaw.DiffTells', WHERE WHAT IT READS IS OF BULK AT MOST 1048576: true; the input reads as it did. -/
def diffTellsUptoRow : OpenClaim := { program := "ytjkbaallfkjmhaa", sum := "cd5eeddb89e0423bb5b9bc3fc778590250adc709c72cb859641c81918224a951", func := "forestay/forestaylaw.DiffTells", spec := "diffTells", inPlace := ["internal/bytealg.abigen_runtime_cmpstring"], unfollowed := true, recurses := true, apart := false, narrowed := true }
def DiffTellsUptoSaid : Prop := diffTellsUptoRow.holds Try.pinned (OpenSpec.upto diffTellsSpec)

/-- 'forestaylaw.DiffWhole', WHERE WHAT IT READS IS OF BULK AT MOST 1048576: true; the input reads as it did. -/
def diffWholeUptoRow : OpenClaim := { program := "ytjkbaallfkjmhaa", sum := "cd5eeddb89e0423bb5b9bc3fc778590250adc709c72cb859641c81918224a951", func := "forestay/forestaylaw.DiffWhole", spec := "diffWhole", inPlace := ["internal/bytealg.abigen_runtime_cmpstring", "slices.overlaps[forestay/api.Object]"], unfollowed := true, recurses := true, apart := false, narrowed := true }
def DiffWholeUptoSaid : Prop := diffWholeUptoRow.holds Try.pinned (OpenSpec.upto diffWholeSpec)

end Rows
end Go.Proofs.Ytjkbaallfkjmhaa
