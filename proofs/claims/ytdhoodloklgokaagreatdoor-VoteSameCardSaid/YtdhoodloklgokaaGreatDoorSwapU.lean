
/- SwapU: one update of a row of the call's own is written. No program here. -/
import Derived.Test.YtdhoodloklgokaaGreatDoorCloU
import Derived.Test.YtdhoodloklgokaaGreatDoorFlatP
import Derived.Test.YtdhoodloklgokaaGreatDoorRowR
namespace Go.Proofs.YtdhoodloklgokaaGreatDoor
open Go.RowKit
set_option linter.unusedVariables false
set_option linter.unusedSimpArgs false

theorem mv_set {l : List Mv} {i j : Nat} {r : Mv} (hj : j < l.length) : mv (l.set i r) j = if j = i then r else mv l j := by
  unfold mv at_
  simp only [List.getD_eq_getElem?_getD, List.getElem?_set]
  by_cases e : i = j
  · subst e; simp [hj]
  · rw [if_neg e, if_neg (fun h => e h.symm)]
theorem OwnU.set {B : Nat} {w : World} {l : List Mv} {r : Mv} {g n c i : Nat} (h : OwnU B w (.slice (some ⟨g, 0, none⟩) n c) l) (hi : i < l.length) (hr : MvOk r) :
    OwnU B (w.setCells g (i * 3) (mvCells r)) (.slice (some ⟨g, 0, none⟩) n c) (l.set i r) ∧ Upd (fun b => b = g) w (w.setCells g (i * 3) (mvCells r)) := by
  have hu := setCells_frame g (mvCells r) (i * 3) w
  refine ⟨?_, hu⟩
  obtain ⟨⟨hxl, hown⟩, h3⟩ := h
  rcases hown with ⟨e, _⟩ | ⟨g', cap, cur, e, hBg, hg, hnc, hcm, hcs, hxs⟩
  · cases e
  cases e
  have hcl : cur.toList.length = c * 3 := by simp [hcs]
  have hw := setCells_heap g 93 (mvCells r) (i * 3) cur w hg (by rw [hcs]; show i * 3 + 3 ≤ _; omega)
  refine ⟨⟨?_, .inr ⟨g, c, _, by rw [List.length_set], hBg, hw, by rw [List.length_set]; exact hnc, hcm, ?_, ?_⟩⟩, fun x hx => ?_⟩
  · exact flat_length fun _ _ => rfl
  · simp only [List.size_toArray, List.length_append, List.length_take, List.length_drop, hcl]; show min (i * 3) (c * 3) + 3 + (c * 3 - (i * 3 + 3)) = c * 3; omega
  · rw [List.length_set]
    have e1 : flat (fun j => mvCells (mv (l.set i r) j)) l.length = flat (fun j => if j = i then mvCells r else mvCells (mv l j)) l.length :=
      flat_congr fun j hj => by
        rw [mv_set hj]
        by_cases e : j = i
        · rw [if_pos e, if_pos e]
        · rw [if_neg e, if_neg e]
    rw [e1, ← flat_put (cs := fun j => mvCells (mv l j)) (ys := mvCells r) (sz := 3) (n := l.length) (i := i) (fun _ _ => rfl) hi, ← hxs]
    simp only [List.toList_toArray]
    exact take_put (ys := mvCells r) (A := cur.toList) (a := i * 3) (m := 3) (n := l.length * 3) rfl (by omega) (by rw [hcl]; omega)
  · rcases List.mem_or_eq_of_mem_set hx with h | h
    · exact h3 x h
    · subst h; exact hr
theorem OwnU.upd {T : Nat → Prop} {B : Nat} {w w' : World} {v : Value} {l : List Mv} (h : OwnU B w v l) (hu : Upd T w w') (hT : ∀ g, v.ownBlock = some g → ¬ T g) : OwnU B w' v l := ⟨own_upd h.1 hu hT, h.2⟩
theorem OwnU.free {B : Nat} {w : World} {l : List Mv} {g o n c : Nat} (h : OwnU B w (.slice (some ⟨g, o, none⟩) n c) l) (j : Nat) : w.frozen? ⟨g, j, none⟩ = false := by
  rcases h.1.2 with ⟨e, _⟩ | ⟨g', cap, cur, e, _, hh, _⟩
  · cases e
  · cases e; exact block_free hh
theorem OwnU.base {B B' : Nat} {w : World} {v : Value} {l : List Mv} (h : OwnU B w v l) (hb : B' ≤ B) : OwnU B' w v l := ⟨own_mono h.1 hb, h.2⟩
theorem setCells3 (g o : Nat) (v0 v1 v2 : Value) (w : World) : w.setCells g o [v0, v1, v2] = ((w.setCell ⟨g, o, none⟩ v0).setCell ⟨g, o + 1, none⟩ v1).setCell ⟨g, o + 2, none⟩ v2 := rfl
end Go.Proofs.YtdhoodloklgokaaGreatDoor
