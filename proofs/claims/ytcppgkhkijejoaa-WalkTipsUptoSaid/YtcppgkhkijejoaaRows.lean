/-
  No cell of these rows narrows 'for every input' (looked for: loops, veiled, ifaces, maps, wideKeys, modest, calm, conditions, laid).
  DERIVED. THE GIVEN ROWS OF THIS SEAT. 14 by the template 'for every input the law returns true; each argument reads behind the call as it read before'; 0 by the template 'total and deterministic' (their statements: YtcppgkhkijejoaaTotals.lean).
  GIVEN WITH THE SEED: the statements are not yours to turn. If you find one false, say at which input.
  Laid BY PROGRAM, IN A SANDBOX (cutbox-rows.mjs): the forced cells as the released guide's own fill.sh prints them over the translation a818d8b703ea9124… (all of the seat's roots in one cut). By AI agents, Wed Nov 11 2026. No macro, syntax, notation, axiom, sorry.
-/
import Derived.Test.YtcppgkhkijejoaaChecked
import GoSem.Claim
import GoSem.ClaimJoined
import GoSem.ClaimMapViews
import Derived.JoinedTies
import Derived.KernelRfl
namespace Go.Proofs.Ytcppgkhkijejoaa
/- THE CELL 'sum', in the pinned program and in every row, IS THE sha256 OF THE DUMP (.gsa) THAT YtcppgkhkijejoaaProg.lean LOADS. Nothing in Lean hashes anything: it is a label: what it is worth is what the hold of that sum in a sandbox is worth. -/
noncomputable def Try.pinned : Pinned := { name := "ytcppgkhkijejoaa", sum := "a818d8b703ea912436a4ed0d3dcb68d82f3f51b7873fd69f3b41784f9f36460c", checked := Try.checked }
namespace Rows
def none {H : Type} : Left H := { results := [], args := [] }

/-- 'forestaylaw.ObjectLinks': WHATEVER THE INPUT: true; the input reads as it did. -/
def objectLinksSpec : ChangeSpec := { name := "objectLinks", fn := fun _ => fun
  | [d] => { results := [.lit (.bool true)], args := [d] }
  | _ => none }
def objectLinksRow : OpenClaim := { program := "ytcppgkhkijejoaa", sum := "a818d8b703ea912436a4ed0d3dcb68d82f3f51b7873fd69f3b41784f9f36460c", func := "forestay/forestaylaw.ObjectLinks", spec := "objectLinks", unfollowed := true, recurses := true, apart := false }
def ObjectLinksSaid : Prop := objectLinksRow.holds Try.pinned (OpenSpec.ofChange objectLinksSpec)

/-- ITS FALSE NEIGHBOUR: 'it returns false'. Refute it at one input. -/
def objectLinksWrong : ChangeSpec := { name := "objectLinks", fn := fun _ => fun
  | [d] => { results := [.lit (.bool false)], args := [d] }
  | _ => none }
def ObjectLinksWrongFalsely : Prop := objectLinksRow.holds Try.pinned (OpenSpec.ofChange objectLinksWrong)

/-- 'forestaylaw.ObjectTells': WHATEVER THE INPUT: true; the input reads as it did. -/
def objectTellsSpec : ChangeSpec := { name := "objectTells", fn := fun _ => fun
  | [d1, d2] => { results := [.lit (.bool true)], args := [d1, d2] }
  | _ => none }
def objectTellsRow : OpenClaim := { program := "ytcppgkhkijejoaa", sum := "a818d8b703ea912436a4ed0d3dcb68d82f3f51b7873fd69f3b41784f9f36460c", func := "forestay/forestaylaw.ObjectTells", spec := "objectTells", unfollowed := true, recurses := true, apart := false }
def ObjectTellsSaid : Prop := objectTellsRow.holds Try.pinned (OpenSpec.ofChange objectTellsSpec)

/-- ITS FALSE NEIGHBOUR: 'it returns false'. Refute it at one input. -/
def objectTellsWrong : ChangeSpec := { name := "objectTells", fn := fun _ => fun
  | [d1, d2] => { results := [.lit (.bool false)], args := [d1, d2] }
  | _ => none }
def ObjectTellsWrongFalsely : Prop := objectTellsRow.holds Try.pinned (OpenSpec.ofChange objectTellsWrong)

/-- 'forestaylaw.ObjectBack': WHATEVER THE INPUT: true; the input reads as it did. -/
def objectBackSpec : ChangeSpec := { name := "objectBack", fn := fun _ => fun
  | [d1, d2] => { results := [.lit (.bool true)], args := [d1, d2] }
  | _ => none }
def objectBackRow : OpenClaim := { program := "ytcppgkhkijejoaa", sum := "a818d8b703ea912436a4ed0d3dcb68d82f3f51b7873fd69f3b41784f9f36460c", func := "forestay/forestaylaw.ObjectBack", spec := "objectBack", unfollowed := true, recurses := true, apart := false }
def ObjectBackSaid : Prop := objectBackRow.holds Try.pinned (OpenSpec.ofChange objectBackSpec)

/-- ITS FALSE NEIGHBOUR: 'it returns false'. Refute it at one input. -/
def objectBackWrong : ChangeSpec := { name := "objectBack", fn := fun _ => fun
  | [d1, d2] => { results := [.lit (.bool false)], args := [d1, d2] }
  | _ => none }
def ObjectBackWrongFalsely : Prop := objectBackRow.holds Try.pinned (OpenSpec.ofChange objectBackWrong)

/-- 'forestaylaw.ObjectApart': WHATEVER THE INPUT: true; the input reads as it did. -/
def objectApartSpec : ChangeSpec := { name := "objectApart", fn := fun _ => fun
  | [d1, d2] => { results := [.lit (.bool true)], args := [d1, d2] }
  | _ => none }
def objectApartRow : OpenClaim := { program := "ytcppgkhkijejoaa", sum := "a818d8b703ea912436a4ed0d3dcb68d82f3f51b7873fd69f3b41784f9f36460c", func := "forestay/forestaylaw.ObjectApart", spec := "objectApart", unfollowed := true, recurses := true, apart := false }
def ObjectApartSaid : Prop := objectApartRow.holds Try.pinned (OpenSpec.ofChange objectApartSpec)

/-- ITS FALSE NEIGHBOUR: 'it returns false'. Refute it at one input. -/
def objectApartWrong : ChangeSpec := { name := "objectApart", fn := fun _ => fun
  | [d1, d2] => { results := [.lit (.bool false)], args := [d1, d2] }
  | _ => none }
def ObjectApartWrongFalsely : Prop := objectApartRow.holds Try.pinned (OpenSpec.ofChange objectApartWrong)

/-- 'forestaylaw.RefsTells': WHATEVER THE INPUT: true; the input reads as it did. -/
def refsTellsSpec : ChangeSpec := { name := "refsTells", fn := fun _ => fun
  | [d1, d2, d3] => { results := [.lit (.bool true)], args := [d1, d2, d3] }
  | _ => none }
def refsTellsRow : OpenClaim := { program := "ytcppgkhkijejoaa", sum := "a818d8b703ea912436a4ed0d3dcb68d82f3f51b7873fd69f3b41784f9f36460c", func := "forestay/forestaylaw.RefsTells", spec := "refsTells", unfollowed := true, recurses := true, apart := false }
def RefsTellsSaid : Prop := refsTellsRow.holds Try.pinned (OpenSpec.ofChange refsTellsSpec)

/-- ITS FALSE NEIGHBOUR: 'it returns false'. Refute it at one input. -/
def refsTellsWrong : ChangeSpec := { name := "refsTells", fn := fun _ => fun
  | [d1, d2, d3] => { results := [.lit (.bool false)], args := [d1, d2, d3] }
  | _ => none }
def RefsTellsWrongFalsely : Prop := refsTellsRow.holds Try.pinned (OpenSpec.ofChange refsTellsWrong)

/-- 'forestaylaw.WalkTips': WHATEVER THE INPUT: true; the input reads as it did. -/
def walkTipsSpec : ChangeSpec := { name := "walkTips", fn := fun _ => fun
  | [d1, d2, d3] => { results := [.lit (.bool true)], args := [d1, d2, d3] }
  | _ => none }
def walkTipsRow : OpenClaim := { program := "ytcppgkhkijejoaa", sum := "a818d8b703ea912436a4ed0d3dcb68d82f3f51b7873fd69f3b41784f9f36460c", func := "forestay/forestaylaw.WalkTips", spec := "walkTips", unfollowed := true, recurses := true, apart := false }
def WalkTipsSaid : Prop := walkTipsRow.holds Try.pinned (OpenSpec.ofChange walkTipsSpec)

/-- ITS FALSE NEIGHBOUR: 'it returns false'. Refute it at one input. -/
def walkTipsWrong : ChangeSpec := { name := "walkTips", fn := fun _ => fun
  | [d1, d2, d3] => { results := [.lit (.bool false)], args := [d1, d2, d3] }
  | _ => none }
def WalkTipsWrongFalsely : Prop := walkTipsRow.holds Try.pinned (OpenSpec.ofChange walkTipsWrong)

/-- 'forestaylaw.WalkTells': WHATEVER THE INPUT: true; the input reads as it did. -/
def walkTellsSpec : ChangeSpec := { name := "walkTells", fn := fun _ => fun
  | [d1, d2, d3, d4] => { results := [.lit (.bool true)], args := [d1, d2, d3, d4] }
  | _ => none }
def walkTellsRow : OpenClaim := { program := "ytcppgkhkijejoaa", sum := "a818d8b703ea912436a4ed0d3dcb68d82f3f51b7873fd69f3b41784f9f36460c", func := "forestay/forestaylaw.WalkTells", spec := "walkTells", unfollowed := true, recurses := true, apart := false }
def WalkTellsSaid : Prop := walkTellsRow.holds Try.pinned (OpenSpec.ofChange walkTellsSpec)

/-- ITS FALSE NEIGHBOUR: 'it returns false'. Refute it at one input. -/
def walkTellsWrong : ChangeSpec := { name := "walkTells", fn := fun _ => fun
  | [d1, d2, d3, d4] => { results := [.lit (.bool false)], args := [d1, d2, d3, d4] }
  | _ => none }
def WalkTellsWrongFalsely : Prop := walkTellsRow.holds Try.pinned (OpenSpec.ofChange walkTellsWrong)

/-- 'forestaylaw.WalkBehind': WHATEVER THE INPUT: true; the input reads as it did. -/
def walkBehindSpec : ChangeSpec := { name := "walkBehind", fn := fun _ => fun
  | [d1, d2, d3, d4] => { results := [.lit (.bool true)], args := [d1, d2, d3, d4] }
  | _ => none }
def walkBehindRow : OpenClaim := { program := "ytcppgkhkijejoaa", sum := "a818d8b703ea912436a4ed0d3dcb68d82f3f51b7873fd69f3b41784f9f36460c", func := "forestay/forestaylaw.WalkBehind", spec := "walkBehind", unfollowed := true, recurses := true, apart := false }
def WalkBehindSaid : Prop := walkBehindRow.holds Try.pinned (OpenSpec.ofChange walkBehindSpec)

/-- ITS FALSE NEIGHBOUR: 'it returns false'. Refute it at one input. -/
def walkBehindWrong : ChangeSpec := { name := "walkBehind", fn := fun _ => fun
  | [d1, d2, d3, d4] => { results := [.lit (.bool false)], args := [d1, d2, d3, d4] }
  | _ => none }
def WalkBehindWrongFalsely : Prop := walkBehindRow.holds Try.pinned (OpenSpec.ofChange walkBehindWrong)

/-- 'forestaylaw.RefsOnce': WHATEVER THE INPUT: true; the input reads as it did. -/
def refsOnceSpec : ChangeSpec := { name := "refsOnce", fn := fun _ => fun
  | [d1, d2, d3] => { results := [.lit (.bool true)], args := [d1, d2, d3] }
  | _ => none }
def refsOnceRow : OpenClaim := { program := "ytcppgkhkijejoaa", sum := "a818d8b703ea912436a4ed0d3dcb68d82f3f51b7873fd69f3b41784f9f36460c", func := "forestay/forestaylaw.RefsOnce", spec := "refsOnce", unfollowed := true, recurses := true, apart := false }
def RefsOnceSaid : Prop := refsOnceRow.holds Try.pinned (OpenSpec.ofChange refsOnceSpec)

/-- ITS FALSE NEIGHBOUR: 'it returns false'. Refute it at one input. -/
def refsOnceWrong : ChangeSpec := { name := "refsOnce", fn := fun _ => fun
  | [d1, d2, d3] => { results := [.lit (.bool false)], args := [d1, d2, d3] }
  | _ => none }
def RefsOnceWrongFalsely : Prop := refsOnceRow.holds Try.pinned (OpenSpec.ofChange refsOnceWrong)

/-- 'forestaylaw.StoreParts': WHATEVER THE INPUT: true; the input reads as it did. -/
def storePartsSpec : ChangeSpec := { name := "storeParts", fn := fun _ => fun
  | [d1, d2] => { results := [.lit (.bool true)], args := [d1, d2] }
  | _ => none }
def storePartsRow : OpenClaim := { program := "ytcppgkhkijejoaa", sum := "a818d8b703ea912436a4ed0d3dcb68d82f3f51b7873fd69f3b41784f9f36460c", func := "forestay/forestaylaw.StoreParts", spec := "storeParts", inPlace := ["slices.overlaps[forestay/api.Object]"], unfollowed := true, recurses := true, apart := false }
def StorePartsSaid : Prop := storePartsRow.holds Try.pinned (OpenSpec.ofChange storePartsSpec)

/-- ITS FALSE NEIGHBOUR: 'it returns false'. Refute it at one input. -/
def storePartsWrong : ChangeSpec := { name := "storeParts", fn := fun _ => fun
  | [d1, d2] => { results := [.lit (.bool false)], args := [d1, d2] }
  | _ => none }
def StorePartsWrongFalsely : Prop := storePartsRow.holds Try.pinned (OpenSpec.ofChange storePartsWrong)

/-- 'forestaylaw.StoreTells': WHATEVER THE INPUT: true; the input reads as it did. -/
def storeTellsSpec : ChangeSpec := { name := "storeTells", fn := fun _ => fun
  | [d1, d2, d3] => { results := [.lit (.bool true)], args := [d1, d2, d3] }
  | _ => none }
def storeTellsRow : OpenClaim := { program := "ytcppgkhkijejoaa", sum := "a818d8b703ea912436a4ed0d3dcb68d82f3f51b7873fd69f3b41784f9f36460c", func := "forestay/forestaylaw.StoreTells", spec := "storeTells", inPlace := ["slices.overlaps[forestay/api.Object]"], unfollowed := true, recurses := true, apart := false }
def StoreTellsSaid : Prop := storeTellsRow.holds Try.pinned (OpenSpec.ofChange storeTellsSpec)

/-- ITS FALSE NEIGHBOUR: 'it returns false'. Refute it at one input. -/
def storeTellsWrong : ChangeSpec := { name := "storeTells", fn := fun _ => fun
  | [d1, d2, d3] => { results := [.lit (.bool false)], args := [d1, d2, d3] }
  | _ => none }
def StoreTellsWrongFalsely : Prop := storeTellsRow.holds Try.pinned (OpenSpec.ofChange storeTellsWrong)

/-- 'forestaylaw.StoreKeeps': WHATEVER THE INPUT: true; the input reads as it did. -/
def storeKeepsSpec : ChangeSpec := { name := "storeKeeps", fn := fun _ => fun
  | [d1, d2] => { results := [.lit (.bool true)], args := [d1, d2] }
  | _ => none }
def storeKeepsRow : OpenClaim := { program := "ytcppgkhkijejoaa", sum := "a818d8b703ea912436a4ed0d3dcb68d82f3f51b7873fd69f3b41784f9f36460c", func := "forestay/forestaylaw.StoreKeeps", spec := "storeKeeps", inPlace := ["slices.overlaps[forestay/api.Object]"], unfollowed := true, recurses := true, apart := false }
def StoreKeepsSaid : Prop := storeKeepsRow.holds Try.pinned (OpenSpec.ofChange storeKeepsSpec)

/-- ITS FALSE NEIGHBOUR: 'it returns false'. Refute it at one input. -/
def storeKeepsWrong : ChangeSpec := { name := "storeKeeps", fn := fun _ => fun
  | [d1, d2] => { results := [.lit (.bool false)], args := [d1, d2] }
  | _ => none }
def StoreKeepsWrongFalsely : Prop := storeKeepsRow.holds Try.pinned (OpenSpec.ofChange storeKeepsWrong)

/-- 'forestaylaw.StoreOrder': WHATEVER THE INPUT: true; the input reads as it did. -/
def storeOrderSpec : ChangeSpec := { name := "storeOrder", fn := fun _ => fun
  | [d1, d2, d3] => { results := [.lit (.bool true)], args := [d1, d2, d3] }
  | _ => none }
def storeOrderRow : OpenClaim := { program := "ytcppgkhkijejoaa", sum := "a818d8b703ea912436a4ed0d3dcb68d82f3f51b7873fd69f3b41784f9f36460c", func := "forestay/forestaylaw.StoreOrder", spec := "storeOrder", inPlace := ["slices.overlaps[forestay/api.Object]"], unfollowed := true, recurses := true, apart := false }
def StoreOrderSaid : Prop := storeOrderRow.holds Try.pinned (OpenSpec.ofChange storeOrderSpec)

/-- ITS FALSE NEIGHBOUR: 'it returns false'. Refute it at one input. -/
def storeOrderWrong : ChangeSpec := { name := "storeOrder", fn := fun _ => fun
  | [d1, d2, d3] => { results := [.lit (.bool false)], args := [d1, d2, d3] }
  | _ => none }
def StoreOrderWrongFalsely : Prop := storeOrderRow.holds Try.pinned (OpenSpec.ofChange storeOrderWrong)

/-- 'forestaylaw.WalkPart': WHATEVER THE INPUT: true; the input reads as it did. -/
def walkPartSpec : ChangeSpec := { name := "walkPart", fn := fun _ => fun
  | [d1, d2, d3] => { results := [.lit (.bool true)], args := [d1, d2, d3] }
  | _ => none }
def walkPartRow : OpenClaim := { program := "ytcppgkhkijejoaa", sum := "a818d8b703ea912436a4ed0d3dcb68d82f3f51b7873fd69f3b41784f9f36460c", func := "forestay/forestaylaw.WalkPart", spec := "walkPart", inPlace := ["slices.overlaps[forestay/api.Object]"], unfollowed := true, recurses := true, apart := false }
def WalkPartSaid : Prop := walkPartRow.holds Try.pinned (OpenSpec.ofChange walkPartSpec)

/-- ITS FALSE NEIGHBOUR: 'it returns false'. Refute it at one input. -/
def walkPartWrong : ChangeSpec := { name := "walkPart", fn := fun _ => fun
  | [d1, d2, d3] => { results := [.lit (.bool false)], args := [d1, d2, d3] }
  | _ => none }
def WalkPartWrongFalsely : Prop := walkPartRow.holds Try.pinned (OpenSpec.ofChange walkPartWrong)

/- THE SECOND FORM. 'bulk': how many values and letters a reading holds, each counted each time it is reached (what is shared counts as often as it is met; a slice's spare places count too). A statement '..UptoSaid' is the law's where the arguments, and the package variables that the reading takes, are together of bulk at most 1048576: NARROWER than '..Said'. Prove '..Said' where nothing that the law and all that it calls make is longer than what came in: it says more and counts as full. Else prove '..UptoSaid'. A law counts once. -/
mutual
def uptoBulk {H : Type} : DataW H → Nat
  | .lit (.string bytes) => bytes.length + 1
  | .lit _ => 1
  | .nil => 1
  | .ptr d => uptoBulk d + 1
  | .slice elems spare => uptoBulkAll elems + uptoBulkAll spare + 1
  | .agg parts => uptoBulkAll parts + 1
  | .iface _ d => uptoBulk d + 1
  | .map entries => uptoBulkEntries entries + 1
  | .held _ => 1
def uptoBulkAll {H : Type} : List (DataW H) → Nat
  | [] => 0
  | d :: r => uptoBulk d + uptoBulkAll r
def uptoBulkEntries {H : Type} : List (Lit × DataW H) → Nat
  | [] => 0
  | x :: r => uptoBulkEntry x + uptoBulkEntries r
def uptoBulkEntry {H : Type} : Lit × DataW H → Nat
  | (.string bytes, d) => bytes.length + uptoBulk d + 1
  | (_, d) => uptoBulk d + 1
 end
def uptoSmall : (H : Type) → List (DataW H) → Bool := fun _ ds => decide (uptoBulkAll ds ≤ 1048576)
def OpenSpec.upto (s : _root_.Go.ChangeSpec) : _root_.Go.OpenSpec := { _root_.Go.OpenSpec.ofChange s with cond := some uptoSmall }

/-- 'forestaylaw.ObjectLinks', WHERE WHAT IT READS IS OF BULK AT MOST 1048576: true; the input reads as it did. -/
def objectLinksUptoRow : OpenClaim := { program := "ytcppgkhkijejoaa", sum := "a818d8b703ea912436a4ed0d3dcb68d82f3f51b7873fd69f3b41784f9f36460c", func := "forestay/forestaylaw.ObjectLinks", spec := "objectLinks", unfollowed := true, recurses := true, apart := false, narrowed := true }
def ObjectLinksUptoSaid : Prop := objectLinksUptoRow.holds Try.pinned (OpenSpec.upto objectLinksSpec)

/-- 'forestaylaw.ObjectTells', WHERE WHAT IT READS IS OF BULK AT MOST 1048576: true; the input reads as it did. -/
def objectTellsUptoRow : OpenClaim := { program := "ytcppgkhkijejoaa", sum := "a818d8b703ea912436a4ed0d3dcb68d82f3f51b7873fd69f3b41784f9f36460c", func := "forestay/forestaylaw.ObjectTells", spec := "objectTells", unfollowed := true, recurses := true, apart := false, narrowed := true }
def ObjectTellsUptoSaid : Prop := objectTellsUptoRow.holds Try.pinned (OpenSpec.upto objectTellsSpec)

/-- 'forestaylaw.ObjectBack', WHERE WHAT IT READS IS OF BULK AT MOST 1048576: true; the input reads as it did. -/
def objectBackUptoRow : OpenClaim := { program := "ytcppgkhkijejoaa", sum := "a818d8b703ea912436a4ed0d3dcb68d82f3f51b7873fd69f3b41784f9f36460c", func := "forestay/forestaylaw.ObjectBack", spec := "objectBack", unfollowed := true, recurses := true, apart := false, narrowed := true }
def ObjectBackUptoSaid : Prop := objectBackUptoRow.holds Try.pinned (OpenSpec.upto objectBackSpec)

/-- 'forestaylaw.ObjectApart', WHERE WHAT IT READS IS OF BULK AT MOST 1048576: true; the input reads as it did. -/
def objectApartUptoRow : OpenClaim := { program := "ytcppgkhkijejoaa", sum := "a818d8b703ea912436a4ed0d3dcb68d82f3f51b7873fd69f3b41784f9f36460c", func := "forestay/forestaylaw.ObjectApart", spec := "objectApart", unfollowed := true, recurses := true, apart := false, narrowed := true }
def ObjectApartUptoSaid : Prop := objectApartUptoRow.holds Try.pinned (OpenSpec.upto objectApartSpec)

/-- 'forestaylaw.RefsTells', WHERE WHAT IT READS IS OF BULK AT MOST 1048576: true; the input reads as it did. -/
def refsTellsUptoRow : OpenClaim := { program := "ytcppgkhkijejoaa", sum := "a818d8b703ea912436a4ed0d3dcb68d82f3f51b7873fd69f3b41784f9f36460c", func := "forestay/forestaylaw.RefsTells", spec := "refsTells", unfollowed := true, recurses := true, apart := false, narrowed := true }
def RefsTellsUptoSaid : Prop := refsTellsUptoRow.holds Try.pinned (OpenSpec.upto refsTellsSpec)

/-- 'forestaylaw.WalkTips', WHERE WHAT IT READS IS OF BULK AT MOST 1048576: true; the input reads as it did. -/
def walkTipsUptoRow : OpenClaim := { program := "ytcppgkhkijejoaa", sum := "a818d8b703ea912436a4ed0d3dcb68d82f3f51b7873fd69f3b41784f9f36460c", func := "forestay/forestaylaw.WalkTips", spec := "walkTips", unfollowed := true, recurses := true, apart := false, narrowed := true }
def WalkTipsUptoSaid : Prop := walkTipsUptoRow.holds Try.pinned (OpenSpec.upto walkTipsSpec)

/-- 'forestaylaw.WalkTells', WHERE WHAT IT READS IS OF BULK AT MOST 1048576: true; the input reads as it did. -/
def walkTellsUptoRow : OpenClaim := { program := "ytcppgkhkijejoaa", sum := "a818d8b703ea912436a4ed0d3dcb68d82f3f51b7873fd69f3b41784f9f36460c", func := "forestay/forestaylaw.WalkTells", spec := "walkTells", unfollowed := true, recurses := true, apart := false, narrowed := true }
def WalkTellsUptoSaid : Prop := walkTellsUptoRow.holds Try.pinned (OpenSpec.upto walkTellsSpec)

/-- 'forestaylaw.WalkBehind', WHERE WHAT IT READS IS OF BULK AT MOST 1048576: true; the input reads as it did. -/
def walkBehindUptoRow : OpenClaim := { program := "ytcppgkhkijejoaa", sum := "a818d8b703ea912436a4ed0d3dcb68d82f3f51b7873fd69f3b41784f9f36460c", func := "forestay/forestaylaw.WalkBehind", spec := "walkBehind", unfollowed := true, recurses := true, apart := false, narrowed := true }
def WalkBehindUptoSaid : Prop := walkBehindUptoRow.holds Try.pinned (OpenSpec.upto walkBehindSpec)

/-- 'forestaylaw.RefsOnce', WHERE WHAT IT READS IS OF BULK AT MOST 1048576: true; the input reads as it did. -/
def refsOnceUptoRow : OpenClaim := { program := "ytcppgkhkijejoaa", sum := "a818d8b703ea912436a4ed0d3dcb68d82f3f51b7873fd69f3b41784f9f36460c", func := "forestay/forestaylaw.RefsOnce", spec := "refsOnce", unfollowed := true, recurses := true, apart := false, narrowed := true }
def RefsOnceUptoSaid : Prop := refsOnceUptoRow.holds Try.pinned (OpenSpec.upto refsOnceSpec)

/-- 'forestaylaw.StoreParts', WHERE WHAT IT READS IS OF BULK AT MOST 1048576: true; the input reads as it did. -/
def storePartsUptoRow : OpenClaim := { program := "ytcppgkhkijejoaa", sum := "a818d8b703ea912436a4ed0d3dcb68d82f3f51b7873fd69f3b41784f9f36460c", func := "forestay/forestaylaw.StoreParts", spec := "storeParts", inPlace := ["slices.overlaps[forestay/api.Object]"], unfollowed := true, recurses := true, apart := false, narrowed := true }
def StorePartsUptoSaid : Prop := storePartsUptoRow.holds Try.pinned (OpenSpec.upto storePartsSpec)

/-- 'forestaylaw.StoreTells', WHERE WHAT IT READS IS OF BULK AT MOST 1048576: true; the input reads as it did. -/
def storeTellsUptoRow : OpenClaim := { program := "ytcppgkhkijejoaa", sum := "a818d8b703ea912436a4ed0d3dcb68d82f3f51b7873fd69f3b41784f9f36460c", func := "forestay/forestaylaw.StoreTells", spec := "storeTells", inPlace := ["slices.overlaps[forestay/api.Object]"], unfollowed := true, recurses := true, apart := false, narrowed := true }
def StoreTellsUptoSaid : Prop := storeTellsUptoRow.holds Try.pinned (OpenSpec.upto storeTellsSpec)

/-- 'forestaylaw.StoreKeeps', WHERE WHAT IT READS IS OF BULK AT MOST 1048576: true; the input reads as it did. -/
def storeKeepsUptoRow : OpenClaim := { program := "ytcppgkhkijejoaa", sum := "a818d8b703ea912436a4ed0d3dcb68d82f3f51b7873fd69f3b41784f9f36460c", func := "forestay/forestaylaw.StoreKeeps", spec := "storeKeeps", inPlace := ["slices.overlaps[forestay/api.Object]"], unfollowed := true, recurses := true, apart := false, narrowed := true }
def StoreKeepsUptoSaid : Prop := storeKeepsUptoRow.holds Try.pinned (OpenSpec.upto storeKeepsSpec)

/-- 'forestaylaw.StoreOrder', WHERE WHAT IT READS IS OF BULK AT MOST 1048576: true; the input reads as it did. -/
def storeOrderUptoRow : OpenClaim := { program := "ytcppgkhkijejoaa", sum := "a818d8b703ea912436a4ed0d3dcb68d82f3f51b7873fd69f3b41784f9f36460c", func := "forestay/forestaylaw.StoreOrder", spec := "storeOrder", inPlace := ["slices.overlaps[forestay/api.Object]"], unfollowed := true, recurses := true, apart := false, narrowed := true }
def StoreOrderUptoSaid : Prop := storeOrderUptoRow.holds Try.pinned (OpenSpec.upto storeOrderSpec)

/-- 'forestaylaw.WalkPart', WHERE WHAT IT READS IS OF BULK AT MOST 1048576: true; the input reads as it did. -/
def walkPartUptoRow : OpenClaim := { program := "ytcppgkhkijejoaa", sum := "a818d8b703ea912436a4ed0d3dcb68d82f3f51b7873fd69f3b41784f9f36460c", func := "forestay/forestaylaw.WalkPart", spec := "walkPart", inPlace := ["slices.overlaps[forestay/api.Object]"], unfollowed := true, recurses := true, apart := false, narrowed := true }
def WalkPartUptoSaid : Prop := walkPartUptoRow.holds Try.pinned (OpenSpec.upto walkPartSpec)

end Rows
end Go.Proofs.Ytcppgkhkijejoaa
