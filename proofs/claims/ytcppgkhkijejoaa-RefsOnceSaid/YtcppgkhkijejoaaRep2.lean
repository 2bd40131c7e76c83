/- Readings, more: new rows of numbers; where a reading lies. No program here. -/
import Derived.Test.YtcppgkhkijejoaaRep
import Derived.Test.YtcppgkhkijejoaaMem2
namespace Go.Proofs.Ytcppgkhkijejoaa
open Go.RowKit
set_option linter.unusedVariables false
set_option linter.unusedSimpArgs false

theorem nth_ge {xs : List Int} {i : Nat} (h : xs.length ≤ i) : nth xs i = 0 := by simp [nth, at_, List.getD_eq_getElem?_getD, h]

/-- a reading's block was there -/
theorem IntsV.lt {S : Nat → Prop} {w : World} {v : Value} {xs : List Int} (h : IntsV S w v xs) : IntsV (fun b => S b ∧ b < w.heap.size) w v xs := by
  obtain ⟨⟨a, cap, hv, h1, h2, h3, h4⟩, h5⟩ := h
  refine ⟨⟨a, cap, hv, h1, h2, h3, fun hn => ?_⟩, h5⟩
  obtain ⟨b, off, ha, hS, hc⟩ := h4 hn
  exact ⟨b, off, ha, ⟨hS, World.block_lt_of_cell? w _ (hc 0 hn 0 _ rfl)⟩, hc⟩

/-- a new block of numbers -/
theorem ints_new (w : World) (xs : List Int) (t : TypeId) (N : Nat) (hN : N = w.heap.size) (hl : xs.length * 8 ≤ 140737488351232) (hi : ∀ x ∈ xs, I64 x) :
    IntsV (fun b => b = N) (w.alloc (.cells (xs.map (Value.int .i64)).toArray t)) (.slice (some ⟨N, 0, none⟩) xs.length xs.length) xs := by
  subst hN
  refine IntsV.mk (Nat.le_refl _) (by omega) hl rfl (fun i hn => ?_) hi
  rw [World.cell?_alloc_at _ _ _ _ rfl]
  simp only [List.getElem?_toArray, List.getElem?_map]
  simp [List.getElem?_eq_getElem hn, nth_lt hn]

/-- a new block of objects -/
theorem store_new {S : Nat → Prop} (w : World) (l : List Obj) (lvs : Nat → Value) (t : TypeId) (N : Nat) (hN : N = w.heap.size) (hl : l.length * 56 ≤ 140737488351232)
    (h : ∀ i, i < l.length → ObjIs S w (obj l i) (lvs i)) :
    StoreV (fun b => b = N ∨ S b) (w.alloc (.cells (flat (fun i => objCells (obj l i) (lvs i)) l.length).toArray t)) (.slice (some ⟨N, 0, none⟩) l.length l.length) l :=
  ⟨lvs, (sl_new w _ 4 56 _ t N hN (fun _ _ => rfl) hl (by omega)).weaken fun b hb => .inl hb,
    fun i hi => ((h i hi).below ((Below.refl _ _).alloc (Nat.le_refl _) _)).weaken fun b hb => .inr hb⟩

end Go.Proofs.Ytcppgkhkijejoaa
