
/- ObjB: Read, Read2, Told, Told2, Dec, Begun1. -/
import Derived.Test.YtdhoodloklgokaaGreatDoorObjA
import Derived.Test.YtdhoodloklgokaaGreatDoorBase
import Derived.Deep.AppendLies
import Derived.Deep.RegionLaw
import Derived.Recover
import Derived.Defers
import Derived.RegionTactic
import Derived.BigRegion
/- Walks: package object, the reader. -/
namespace Go.Proofs.YtdhoodloklgokaaGreatDoor
open Go.RowKit
set_option linter.unusedVariables false
set_option linter.unusedSimpArgs false

end Go.Proofs.YtdhoodloklgokaaGreatDoor

/- Walks: package object, the reader: an object. -/
namespace Go.Proofs.YtdhoodloklgokaaGreatDoor
open Go.RowKit
set_option linter.unusedVariables false
set_option linter.unusedSimpArgs false

theorem Tryz.infoInt : (Tryz.prog.info? 3).map (fun i => (i.zero, i.size, i.bytes)) = some (some (.int .i64 0), 1, 8) := by kernel_rfl

end Go.Proofs.YtdhoodloklgokaaGreatDoor

/- Walks: package object: told: a text that ends too soon is given up by a panic, which is recovered. -/
namespace Go.Proofs.YtdhoodloklgokaaGreatDoor
open Go.RowKit
set_option linter.unusedVariables false
set_option linter.unusedSimpArgs false

end Go.Proofs.YtdhoodloklgokaaGreatDoor

/- Walks: package object: told, Decode. -/
namespace Go.Proofs.YtdhoodloklgokaaGreatDoor
open Go.RowKit
set_option linter.unusedVariables false
set_option linter.unusedSimpArgs false

theorem Sl.upd {S T : Nat → Prop} {w w' : World} {v : Value} {sz bts n : Nat} {cs : Nat → List Value} (h : Sl S w v sz bts n cs) (hu : Upd T w w') (hT : ∀ b, S b → ¬ T b) : Sl S w' v sz bts n cs := by
  obtain ⟨a, cap, hv, h1, h2, h3, h4⟩ := h
  refine ⟨a, cap, hv, h1, h2, h3, fun hn => ?_⟩
  obtain ⟨b, off, ha, hS, hc⟩ := h4 hn
  exact ⟨b, off, ha, hS, fun i hi j u hu' => hu.cell (hc i hi j u hu') (hT b hS)⟩
theorem IntsV.upd {S T : Nat → Prop} {w w' : World} {v : Value} {xs : List Int} (h : IntsV S w v xs) (hu : Upd T w w') (hT : ∀ b, S b → ¬ T b) : IntsV S w' v xs := ⟨h.1.upd hu hT, h.2⟩
theorem ObjIs.upd {S T : Nat → Prop} {w w' : World} {o : Obj} {lv : Value} (h : ObjIs S w o lv) (hu : Upd T w w') (hT : ∀ b, S b → ¬ T b) : ObjIs S w' o lv := ⟨h.1.upd hu hT, h.2⟩
theorem StoreV.upd {S T : Nat → Prop} {w w' : World} {v : Value} {l : List Obj} (h : StoreV S w v l) (hu : Upd T w w') (hT : ∀ b, S b → ¬ T b) : StoreV S w' v l :=
  let ⟨lvs, h1, h2⟩ := h; ⟨lvs, h1.upd hu hT, fun i hi => (h2 i hi).upd hu hT⟩

theorem heap_new (w : World) (o : Go.Obj) (N : Nat) (h : N = w.heap.size) : (w.alloc o).heap[N]? = some o := by subst h; exact heap_alloc_new w o

def set4 (b : Nat) (v0 v1 v2 v3 : Value) (w : World) : World := (((w.setCell ⟨b, 0, none⟩ v0).setCell ⟨b, 1, none⟩ v1).setCell ⟨b, 2, none⟩ v2).setCell ⟨b, 3, none⟩ v3
theorem set4_is {b : Nat} {v0 v1 v2 v3 u0 u1 u2 u3 : Value} {t : TypeId} {w : World} (h0 : w.heap[b]? = some (.cells #[u0, u1, u2, u3] t (0, 0))) :
    (set4 b v0 v1 v2 v3 w).heap[b]? = some (.cells #[v0, v1, v2, v3] t (0, 0)) :=
  block_setCell (j := 3) (block_setCell (j := 2) (block_setCell (j := 1) (block_setCell (j := 0) h0 _) _) _) _
theorem set4_upd (b : Nat) (v0 v1 v2 v3 : Value) (w : World) : Upd (fun x => x = b) w (set4 b v0 v1 v2 v3 w) :=
  Upd.setCell (T := fun x => x = b) (Upd.setCell (T := fun x => x = b) (Upd.setCell (T := fun x => x = b) (Upd.setCell (T := fun x => x = b) (Upd.refl (fun x => x = b) w) (fun _ => rfl) v0) (fun _ => rfl) v1) (fun _ => rfl) v2) (fun _ => rfl) v3

end Go.Proofs.YtdhoodloklgokaaGreatDoor

/- Walks: package object: Decode; the reference's ObjectOf. -/
namespace Go.Proofs.YtdhoodloklgokaaGreatDoor
open Go.RowKit
set_option linter.unusedVariables false
set_option linter.unusedSimpArgs false

instance (s : ByteArray) : Decidable (rawOk s) := by unfold rawOk; infer_instance

end Go.Proofs.YtdhoodloklgokaaGreatDoor

/- Walks: the law's own first test of objects. -/
namespace Go.Proofs.YtdhoodloklgokaaGreatDoor
open Go.RowKit
set_option linter.unusedVariables false
set_option linter.unusedSimpArgs false

def o5 : Obj := ⟨5, 3, [4, 3], tee⟩
def s5 : ByteArray := ⟨#[5, 3, 2, 4, 3, 1, 116]⟩
def s3 : ByteArray := ⟨#[5, 3, 2]⟩

end Go.Proofs.YtdhoodloklgokaaGreatDoor
