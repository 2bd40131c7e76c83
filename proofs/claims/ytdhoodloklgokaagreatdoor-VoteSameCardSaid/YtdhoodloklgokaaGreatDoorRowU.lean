
/- RowU: updates in a row of the call's own: append. -/
import Derived.Test.YtdhoodloklgokaaGreatDoorCmp
import Derived.Test.YtdhoodloklgokaaGreatDoorInsA
import Derived.Deep.AppendLies
namespace Go.Proofs.YtdhoodloklgokaaGreatDoor
open Go.RowKit
set_option linter.unusedVariables false
set_option linter.unusedSimpArgs false

theorem Tryz.infoUpd : (Tryz.prog.info? 93).map (fun i => (i.zero, i.size, i.bytes)) = some (some (.agg #[.string ⟨#[]⟩, .int .i64 0, .int .i64 0]), 3, 32) := by kernel_rfl
def MvOk (u : Mv) : Prop := I64 u.old ∧ I64 u.new ∧ u.name.size ≤ 140737488351232
/-- updates in a row of the call's own -/
def OwnU (B : Nat) (w : World) (v : Value) (l : List Mv) : Prop :=
  w.ownsRow B 93 3 v l.length (flat (fun i => mvCells (mv l i)) l.length) ∧ ∀ r ∈ l, MvOk r

theorem OwnU.nil (B : Nat) (w : World) : OwnU B w (.slice none 0 0) [] := ⟨World.ownsRow_nil _ _ _ _, fun r h => by cases h⟩
theorem OwnU.below {B : Nat} {w w' : World} {v : Value} {l : List Mv} (h : OwnU B w v l) (hb : Below w.heap.size w w') : OwnU B w' v l := ⟨own_below h.1 hb, h.2⟩
theorem OwnU.shape {B : Nat} {w : World} {v : Value} {l : List Mv} (h : OwnU B w v l) : ∃ a c, v = .slice a l.length c := own_shape h.1
theorem OwnU.block {B : Nat} {w : World} {v : Value} {l : List Mv} (h : OwnU B w v l) {g : Nat} (hg : v.ownBlock = some g) : B ≤ g ∧ g < w.heap.size := h.1.lt g hg
theorem OwnU.mvs {B : Nat} {w : World} {v : Value} {l : List Mv} (h : OwnU B w v l) (hl : l.length * 32 ≤ 140737488351232) : MvsV (fun b => B ≤ b ∧ v.ownBlock = some b) w v l :=
  ⟨own_sl h.1 (fun g hg => ⟨(h.block hg).1, hg⟩) hl (fun i hi j u hu => flat_get (cs := fun i => mvCells (mv l i)) (fun _ _ => rfl) i hi j u hu), h.2⟩

theorem one_mv (r : Mv) : ∀ u ∈ mvCells r, u.oneCell' = true := by
  intro u hu
  simp only [mvCells, List.mem_cons, List.not_mem_nil, or_false] at hu
  rcases hu with rfl | rfl | rfl <;> rfl
end Go.Proofs.YtdhoodloklgokaaGreatDoor
