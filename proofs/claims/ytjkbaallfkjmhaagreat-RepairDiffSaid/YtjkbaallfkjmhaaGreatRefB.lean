
/- RefB: OutRow, Swap, RefWith, RefAdd, FlowS, Begun2. -/
import Derived.Test.YtjkbaallfkjmhaaGreatAddA
import Derived.Laws.OwnMore
import Derived.Deep.DeepCutAuto
import Derived.RegionTactic
import Derived.ChangeAlike
import Derived.Test.YtjkbaallfkjmhaaGreatBase
import Derived.Test.YtjkbaallfkjmhaaGreatWalkB
/- Memory: a row of objects that is appended to, and two of which change places. No program here. -/
namespace Go.Proofs.YtjkbaallfkjmhaaGreat
open Go.RowKit
set_option linter.unusedVariables false
set_option linter.unusedSimpArgs false

/-- append of a store to a new row -/
theorem append_objs {w : World} {lv : Value} {l : List Obj} {S : Nat → Prop} (ty : TypeId) (h : StoreV S w lv l) (hl : l.length ≤ 1000) :
    ∃ g c x, (Builtin.append_ #[22, 22] ty #[.slice (some ⟨w.heap.size, 0, none⟩) 0 0, lv]).run Tryz.prog (w.alloc (.cells #[] 64)) = .ok (.slice (some ⟨g, 0, none⟩) l.length c) x ∧
      GathS (fun b => S b ∧ b < w.heap.size) w.heap.size x (.slice (some ⟨g, 0, none⟩) l.length c) l ∧ Below w.heap.size w x := by
  obtain ⟨i0, hi, hz0, hz1, hz2⟩ := info_parts Tryz.infoObj
  have hown : (w.alloc (.cells #[] 64)).ownsRow w.heap.size 64 4 (.slice (some ⟨w.heap.size, 0, none⟩) 0 0) 0 [] :=
    ⟨rfl, .inr ⟨w.heap.size, 0, #[], rfl, Nat.le_refl _, heap_alloc_new w _, Nat.le_refl _, by unfold maxLen; omega, rfl, rfl⟩⟩
  have hB1 : Below w.heap.size w (w.alloc (.cells #[] 64)) := (Below.refl _ _).alloc (Nat.le_refl _) _
  obtain ⟨lvs, ⟨a, cap, rfl, h1, h2, h3, h4⟩, h5⟩ := h.lt
  by_cases h0 : l.length = 0
  · obtain rfl : l = [] := List.length_eq_zero_iff.1 h0
    refine ⟨w.heap.size, 0, _, run_append_nothing _ 22 22 ty 64 i0 Tryz.underlying22 hi (some ⟨w.heap.size, 0, none⟩) 0 0 (Nat.le_refl _) _
      ⟨.inl ⟨_, Tryz.underlying22⟩, fun w' => by simp [Builtin.lenOf], by cases a <;> simp [Builtin.firstCells] <;> rfl, by cases a <;> simp [Builtin.firstCells] <;> rfl, by simp, by simp⟩, ⟨fun _ => .nilFunc, fun b (hb : S b ∧ b < w.heap.size) => ⟨by simp; omega, fun e => by cases e; exact Nat.lt_irrefl _ hb.2⟩, hown, fun i hi => by simp at hi⟩, hB1⟩
  · obtain ⟨b, off, rfl, hb, hc⟩ := h4 (by omega)
    obtain ⟨g', c', x', hr, ho, hg, hor, hlt⟩ := run_append_lies (P := Tryz.prog) (w.alloc (.cells #[] 64)) 22 ty w.heap.size 64 i0 _ 4 56 Tryz.underlying22 hi hz0 hz1 hz2 rfl (by omega) _ 0 [] hown ⟨b, off, none⟩ l.length cap (flat (fun i => objCells (obj l i) (lvs i)) l.length) (flat_length fun _ _ => rfl)
      (fun j u hu => by
        have hj : j < l.length * 4 := by
          rcases Nat.lt_or_ge j (l.length * 4) with h | h
          · exact h
          · rw [List.getElem?_eq_none (by rw [flat_length (sz := 4) fun _ _ => rfl]; exact h)] at hu; cases hu
        have hi' : j / 4 < l.length := by omega
        have hm : j % 4 < (objCells (obj l (j / 4)) (lvs (j / 4))).length := by show j % 4 < 4; omega
        have e := flat_get (cs := fun i => objCells (obj l i) (lvs i)) (sz := 4) (n := l.length) (fun _ _ => rfl) (j / 4) hi' (j % 4) _ (List.getElem?_eq_getElem hm)
        rw [show j / 4 * 4 + j % 4 = j by omega, hu] at e
        have := hc (j / 4) hi' (j % 4) u (by rw [List.getElem?_eq_getElem hm]; exact e.symm)
        rw [show (⟨b, off, none⟩ : Addr).add j = ⟨b, off + j, none⟩ by unfold Addr.add; split <;> simp_all]
        rw [show off + j = off + j / 4 * 4 + j % 4 by omega, hB1.cell (p := ⟨b, off + j / 4 * 4 + j % 4, none⟩) hb.2]; exact this)
      (one_flat fun i hi => one_cells (h5 i hi)) (by omega) (by unfold maxLen; omega) (by omega) (by simp) _ rfl
    have hB2 : Below w.heap.size w x' := Below.grown hB1 hg (by simp) (fun k hk => (hown.lt k hk).1)
    refine ⟨g', c', x', by simpa using hr, ⟨lvs, fun b (hb : S b ∧ b < w.heap.size) => ⟨by have := hB2.size; omega, fun e => ?_⟩, by simpa using ho, fun i hi => (h5 i hi).below hB2⟩, hB2⟩
    have e' : g' = b := by simpa [Value.ownBlock] using e
    rcases hor with h | h
    · have : w.heap.size = g' := by simpa [Value.ownBlock] using h
      omega
    · simp at h; omega
end Go.Proofs.YtjkbaallfkjmhaaGreat

/- Memory: two neighbours in a row of objects change places. No program here. -/
namespace Go.Proofs.YtjkbaallfkjmhaaGreat
open Go.RowKit
set_option linter.unusedVariables false
set_option linter.unusedSimpArgs false

def set4At (g o : Nat) (v0 v1 v2 v3 : Value) (w : World) : World := (((w.setCell ⟨g, o, none⟩ v0).setCell ⟨g, o + 1, none⟩ v1).setCell ⟨g, o + 2, none⟩ v2).setCell ⟨g, o + 3, none⟩ v3

theorem set4At_upd (g o : Nat) (v0 v1 v2 v3 : Value) (w : World) : Upd (fun x => x = g) w (set4At g o v0 v1 v2 v3 w) :=
  Upd.setCell (T := fun x => x = g) (Upd.setCell (T := fun x => x = g) (Upd.setCell (T := fun x => x = g) (Upd.setCell (T := fun x => x = g) (Upd.refl (fun x => x = g) w) (fun _ => rfl) v0) (fun _ => rfl) v1) (fun _ => rfl) v2) (fun _ => rfl) v3

theorem flat_at {cs : Nat → List Value} {n : Nat} (h : ∀ i, i < n → (cs i).length = 4) {m : Nat} (hm : m < n * 4) : (flat cs n)[m]? = (cs (m / 4))[m % 4]? := by
  have hi : m / 4 < n := by omega
  have hj : m % 4 < (cs (m / 4)).length := by rw [h _ hi]; omega
  have := flat_get (sz := 4) h (m / 4) hi (m % 4) _ (List.getElem?_eq_getElem hj)
  rw [show m / 4 * 4 + m % 4 = m by omega] at this
  rw [this, List.getElem?_eq_getElem hj]

/-- four cells of a row are written anew -/
theorem flat_set {cs : Nat → List Value} {n i : Nat} (h : ∀ j, j < n → (cs j).length = 4) (hi : i < n) (v0 v1 v2 v3 : Value) :
    ((((flat cs n).set (i * 4) v0).set (i * 4 + 1) v1).set (i * 4 + 2) v2).set (i * 4 + 3) v3 = flat (fun j => if j = i then [v0, v1, v2, v3] else cs j) n := by
  have hl := flat_length (sz := 4) h
  have hl' : (flat (fun j => if j = i then [v0, v1, v2, v3] else cs j) n).length = n * 4 := flat_length (sz := 4) fun j hj => by
    by_cases e : j = i
    · simp [e]
    · simp only [if_neg e]; exact h j hj
  apply List.ext_getElem?
  intro m
  by_cases hm : m < n * 4
  · rw [flat_at (fun j hj => by
      by_cases e : j = i
      · simp [e]
      · simp only [if_neg e]; exact h j hj) hm]
    simp only [List.getElem?_set, List.length_set, hl]
    by_cases e : m / 4 = i
    · rw [if_pos e]
      have : m % 4 = 0 ∨ m % 4 = 1 ∨ m % 4 = 2 ∨ m % 4 = 3 := by omega
      rcases this with k | k | k | k
      · rw [if_neg (by omega), if_neg (by omega), if_neg (by omega), if_pos (by omega), if_pos (by omega), k]; rfl
      · rw [if_neg (by omega), if_neg (by omega), if_pos (by omega), if_pos (by omega), k]; rfl
      · rw [if_neg (by omega), if_pos (by omega), if_pos (by omega), k]; rfl
      · rw [if_pos (by omega), if_pos (by omega), k]; rfl
    · rw [if_neg (by omega), if_neg (by omega), if_neg (by omega), if_neg (by omega), if_neg e, flat_at h hm]
  · rw [List.getElem?_eq_none (by simp only [List.length_set, hl]; omega), List.getElem?_eq_none (by rw [hl']; omega)]

theorem set4At_own {w : World} {B g n cap o : Nat} {e : TypeId} {xs : List Value} (h : w.ownsRow B e 4 (.slice (some ⟨g, 0, none⟩) n cap) n xs) (v0 v1 v2 v3 : Value) :
    (set4At g o v0 v1 v2 v3 w).ownsRow B e 4 (.slice (some ⟨g, 0, none⟩) n cap) n ((((xs.set o v0).set (o + 1) v1).set (o + 2) v2).set (o + 3) v3) :=
  (((((h.stored o v0).1).stored (o + 1) v1).1.stored (o + 2) v2).1.stored (o + 3) v3).1

/-- objects i and i + 1 change places -/
def swapL (l : List Obj) (i : Nat) : List Obj := l.take i ++ obj l (i + 1) :: obj l i :: l.drop (i + 2)
theorem swapL_length {l : List Obj} {i : Nat} (h : i + 1 < l.length) : (swapL l i).length = l.length := by
  unfold swapL; rw [List.length_append, List.length_cons, List.length_cons, List.length_take, List.length_drop]; omega
theorem swapL_at {l : List Obj} {i : Nat} (h : i + 1 < l.length) (j : Nat) : obj (swapL l i) j = if j = i then obj l (i + 1) else if j = i + 1 then obj l i else obj l j := by
  unfold swapL obj at_
  simp only [List.getD_eq_getElem?_getD]
  rcases Nat.lt_trichotomy j i with h1 | rfl | h1
  · rw [if_neg (by omega), if_neg (by omega), List.getElem?_append_left (by rw [List.length_take]; omega), List.getElem?_take, if_pos h1]
  · rw [if_pos rfl, List.getElem?_append_right (by rw [List.length_take]; omega), List.length_take, show j - min j l.length = 0 by omega]; rfl
  · rw [if_neg (by omega), List.getElem?_append_right (by rw [List.length_take]; omega), List.length_take]
    by_cases h2 : j = i + 1
    · rw [if_pos h2, show j - min i l.length = 1 by omega]; rfl
    · rw [if_neg h2, show j - min i l.length = (j - (i + 2)) + 2 by omega, List.getElem?_cons_succ, List.getElem?_cons_succ, List.getElem?_drop, show i + 2 + (j - (i + 2)) = j by omega]

theorem swap_ins {l : List Obj} {i : Nat} {o : Obj} (h : i < l.length) : swapL (ins l (i + 1) o) i = ins l i o := by
  have hl1 : i + 1 < (ins l (i + 1) o).length := by rw [ins_length (by omega)]; omega
  apply List.ext_getElem
  · rw [swapL_length hl1, ins_length (by omega), ins_length (by omega)]
  · intro j h1 h2
    rw [← obj_lt h1, ← obj_lt h2, swapL_at hl1]
    rcases Nat.lt_trichotomy j i with k | rfl | k
    · rw [if_neg (by omega), if_neg (by omega), ins_lt (by omega) (by omega), ins_lt (by omega) k]
    · rw [if_pos rfl, ins_eq (by omega), ins_eq (by omega)]
    · rw [if_neg (by omega)]
      obtain ⟨c, rfl⟩ : ∃ c, j = c + 1 := ⟨j - 1, by omega⟩
      by_cases h3 : c + 1 = i + 1
      · rw [if_pos h3, ins_lt (by omega) (by omega), ins_gt (by omega) (by omega), show c = i by omega]
      · rw [if_neg h3, ins_gt (by omega) (by omega), ins_gt (by omega) (by omega)]

/-- the row in memory -/
theorem swap_gath {S : Nat → Prop} {B : Nat} {w : World} {v : Value} {l : List Obj} {i : Nat} (hG : GathS S B w v l) (hi : i + 1 < l.length) :
    ∃ (g cap : Nat) (p p' : Option Addr) (c c' : Nat), v = .slice (some ⟨g, 0, none⟩) l.length cap ∧ l.length ≤ cap ∧
      w.cell? ⟨g, i * 4, none⟩ = some (.int .i64 (obj l i).id) ∧ w.cell? ⟨g, i * 4 + 1, none⟩ = some (.int .i64 (obj l i).kind) ∧ w.cell? ⟨g, i * 4 + 2, none⟩ = some (.slice p (obj l i).links.length c) ∧ w.cell? ⟨g, i * 4 + 3, none⟩ = some (.string (obj l i).text) ∧
      w.cell? ⟨g, (i + 1) * 4, none⟩ = some (.int .i64 (obj l (i + 1)).id) ∧ w.cell? ⟨g, (i + 1) * 4 + 1, none⟩ = some (.int .i64 (obj l (i + 1)).kind) ∧ w.cell? ⟨g, (i + 1) * 4 + 2, none⟩ = some (.slice p' (obj l (i + 1)).links.length c') ∧ w.cell? ⟨g, (i + 1) * 4 + 3, none⟩ = some (.string (obj l (i + 1)).text) ∧
      (∀ j, w.frozen? ⟨g, j, none⟩ = false) ∧ B ≤ g ∧ g < w.heap.size ∧
      ∀ x : World, (∀ b : Nat, x.heap[b]? = w.heap[b]?) → x.heap.size = w.heap.size →
        GathS S B (set4At g (i * 4) (.int .i64 (obj l (i + 1)).id) (.int .i64 (obj l (i + 1)).kind) (.slice p' (obj l (i + 1)).links.length c') (.string (obj l (i + 1)).text) (set4At g ((i + 1) * 4) (.int .i64 (obj l i).id) (.int .i64 (obj l i).kind) (.slice p (obj l i).links.length c) (.string (obj l i).text) x)) v (swapL l i) := by
  obtain ⟨lvs, h1, h2, h3⟩ := hG
  obtain ⟨⟨p, c⟩, hp⟩ := (h3 i (by omega)).1.shape
  obtain ⟨⟨p', c'⟩, hp'⟩ := (h3 (i + 1) hi).1.shape
  have hv : ∃ g cap, v = .slice (some ⟨g, 0, none⟩) l.length cap ∧ l.length ≤ cap ∧ B ≤ g ∧ g < w.heap.size := by
    rcases h2.2 with ⟨rfl, hn⟩ | ⟨g, cap, cur, rfl, hB, hh, hc, _⟩
    · omega
    · exact ⟨g, cap, rfl, hc, hB, lt_of_block hh⟩
  obtain ⟨g, cap, rfl, hcap, hB, hg⟩ := hv
  have hlen : ∀ j, j < l.length → (objCells (obj l j) (lvs j)).length = 4 := fun _ _ => rfl
  have hcell : ∀ j, j < l.length → ∀ m u, (objCells (obj l j) (lvs j))[m]? = some u → w.cell? ⟨g, j * 4 + m, none⟩ = some u := fun j hj m u hu => by
    have e := flat_get (cs := fun i => objCells (obj l i) (lvs i)) (sz := 4) hlen j hj m u hu
    have hm : m < 4 := by
      rcases Nat.lt_or_ge m 4 with h | h
      · exact h
      · rw [List.getElem?_eq_none (by exact h)] at hu; cases hu
    rw [h2.cellAt _ (by omega)]; exact e
  simp only at hp hp'
  refine ⟨g, cap, p, p', c, c', rfl, hcap, ?_⟩
  rw [← hp, ← hp']
  refine ⟨
    hcell i (by omega) 0 _ rfl, hcell i (by omega) 1 _ rfl, hcell i (by omega) 2 _ rfl, hcell i (by omega) 3 _ rfl,
    hcell (i + 1) hi 0 _ rfl, hcell (i + 1) hi 1 _ rfl, hcell (i + 1) hi 2 _ rfl, hcell (i + 1) hi 3 _ rfl, fun j => h2.frozenAt j, hB, hg, fun x hx hxs => ?_⟩
  have hox : x.ownsRow B 64 4 (.slice (some ⟨g, 0, none⟩) l.length cap) l.length (flat (fun i => objCells (obj l i) (lvs i)) l.length) := by
    refine ⟨h2.1, ?_⟩
    rcases h2.2 with h | ⟨g', cap', cur, e, hB', hh, r⟩
    · exact .inl h
    · exact .inr ⟨g', cap', cur, e, hB', by rw [hx]; exact hh, r⟩
  have hu : Upd (fun b => b = g) x (set4At g (i * 4) (.int .i64 (obj l (i + 1)).id) (.int .i64 (obj l (i + 1)).kind) (lvs (i + 1)) (.string (obj l (i + 1)).text) (set4At g ((i + 1) * 4) (.int .i64 (obj l i).id) (.int .i64 (obj l i).kind) (lvs i) (.string (obj l i).text) x)) :=
    (set4At_upd g _ _ _ _ _ x).trans (set4At_upd g _ _ _ _ _ _) (fun _ _ h => h)
  have h4 := set4At_own (o := i * 4) (set4At_own (o := (i + 1) * 4) hox (.int .i64 (obj l i).id) (.int .i64 (obj l i).kind) (lvs i) (.string (obj l i).text)) (.int .i64 (obj l (i + 1)).id) (.int .i64 (obj l (i + 1)).kind) (lvs (i + 1)) (.string (obj l (i + 1)).text)
  rw [flat_set hlen hi, flat_set (fun j hj => by
    by_cases e : j = i + 1
    · simp [e]
    · simp only [if_neg e]; exact hlen j hj) (by omega)] at h4
  have hoi : ∀ j, j < l.length → ObjIs S x (obj l j) (lvs j) := fun j hj => (h3 j hj).same fun b _ => hx b
  refine ⟨fun j => if j = i then lvs (i + 1) else if j = i + 1 then lvs i else lvs j, fun b hb => ?_, ?_, fun j hj => ?_⟩
  · have := h1 b hb
    exact ⟨by have := hu.size; omega, this.2⟩
  · rw [swapL_length hi]
    have e : flat (fun j => objCells (obj (swapL l i) j) (if j = i then lvs (i + 1) else if j = i + 1 then lvs i else lvs j)) l.length =
        flat (fun j => if j = i then [.int .i64 (obj l (i + 1)).id, .int .i64 (obj l (i + 1)).kind, lvs (i + 1), .string (obj l (i + 1)).text] else if j = i + 1 then [.int .i64 (obj l i).id, .int .i64 (obj l i).kind, lvs i, .string (obj l i).text] else objCells (obj l j) (lvs j)) l.length :=
      flat_congr fun j hj => by
        rw [swapL_at hi]
        by_cases e1 : j = i
        · simp [e1, objCells]
        · by_cases e2 : j = i + 1
          · simp [e2, objCells]
          · simp [e1, e2]
    rw [e]; exact h4
  · rw [swapL_length hi] at hj
    have hn : ∀ b, b = g → ¬ S b := fun b hb hS => (h1 b hS).2 (by rw [hb]; rfl)
    rw [swapL_at hi]
    by_cases e1 : j = i
    · simp only [if_pos e1]; exact (hoi _ hi).upd hu (fun b hS e => hn b e hS)
    · simp only [if_neg e1]
      by_cases e2 : j = i + 1
      · simp only [if_pos e2]; exact (hoi _ (by omega)).upd hu (fun b hS e => hn b e hS)
      · simp only [if_neg e2]; exact (hoi _ hj).upd hu (fun b hS e => hn b e hS)
end Go.Proofs.YtjkbaallfkjmhaaGreat

/- Walks: WithOf of the reference. -/
namespace Go.Proofs.YtjkbaallfkjmhaaGreat
open Go.RowKit
set_option linter.unusedVariables false
set_option linter.unusedSimpArgs false

theorem ins_all (l : List Obj) (o : Obj) : ins l l.length o = l ++ [o] := by unfold ins; rw [List.take_length, List.drop_length]

end Go.Proofs.YtjkbaallfkjmhaaGreat

/- Walks: AddOf of the reference. -/
namespace Go.Proofs.YtjkbaallfkjmhaaGreat
open Go.RowKit
set_option linter.unusedVariables false
set_option linter.unusedSimpArgs false

/-- what is wrong ahead of the joining -/
def addPre (l more : List Obj) : Int := if checkStore l ≠ 0 then checkStore l else if 12 < more.length then 2 else eachE more
theorem addE_pre (l more : List Obj) : addE l more = if addPre l more ≠ 0 then addPre l more else withE l more := by
  unfold addE addPre eachE
  by_cases h1 : checkStore l = 0
  · by_cases h2 : 12 < more.length
    · simp [h1, h2]
    · simp [h1, h2]
  · simp [h1]
theorem addPre_zero {l more : List Obj} (h : addPre l more = 0) : Rising l ∧ l.length ≤ 40 ∧ more.length ≤ 12 := by
  unfold addPre at h
  by_cases h1 : checkStore l = 0
  · by_cases h2 : 12 < more.length
    · simp [h1, h2] at h
    · exact ⟨checkStore_rising h1, (checkStore_zero h1).1, by omega⟩
  · simp [h1] at h

/-- so far nothing is wrong, or just that is -/
def PreAt (l more : List Obj) (k : Nat) (c : Int) : Prop := (c = 0 ∧ checkStore l = 0 ∧ more.length ≤ 12 ∧ scan (fun k => checkObj (obj more k)) k = 0) ∨ (c ≠ 0 ∧ c = addPre l more)

end Go.Proofs.YtjkbaallfkjmhaaGreat

/- Facts on stores and objects, for regions whose order is drawn. No program here. -/
namespace Go.Proofs.YtjkbaallfkjmhaaGreat
open Go.RowKit
set_option linter.unusedVariables false
set_option linter.unusedSimpArgs false

def fStore (l : List Obj) : Fact := ⟨fun v x => StoreV (fun _ => True) x v l, fun _ _ _ h hb => h.below hb⟩
def fInts (l : List Int) : Fact := ⟨fun v x => IntsV (fun _ => True) x v l, fun _ _ _ h hb => h.below hb⟩
def objV (o : Obj) (lv : Value) : Value := .agg #[.int .i64 o.id, .int .i64 o.kind, lv, .string o.text]
def fObj (o : Obj) : Fact := ⟨fun v x => ∃ p c, v = .agg #[.int .i64 o.id, .int .i64 o.kind, .slice p o.links.length c, .string o.text] ∧ ObjIs (fun _ => True) x o (.slice p o.links.length c), fun _ _ _ ⟨p, c, e, h⟩ hb => ⟨p, c, e, h.below hb⟩⟩
/-- four cells of an object at a place -/
def ObjAt (x : World) (o : Obj) (b off : Nat) (lv : Value) : Prop :=
  x.cell? ⟨b, off, none⟩ = some (.int .i64 o.id) ∧ x.cell? ⟨b, off + 1, none⟩ = some (.int .i64 o.kind) ∧ x.cell? ⟨b, off + 2, none⟩ = some lv ∧ x.cell? ⟨b, off + 3, none⟩ = some (.string o.text)
theorem ObjAt.below {x y : World} {o : Obj} {b off : Nat} {lv : Value} (h : ObjAt x o b off lv) (hb : Below x.heap.size x y) : ObjAt y o b off lv :=
  ⟨below_cell hb h.1, below_cell hb h.2.1, below_cell hb h.2.2.1, below_cell hb h.2.2.2⟩
def fPtrO (o : Obj) : Fact := ⟨fun v x => ∃ b off p c, v = .pointer (some ⟨b, off, none⟩) ∧ ObjAt x o b off (.slice p o.links.length c) ∧ ObjIs (fun _ => True) x o (.slice p o.links.length c),
  fun _ _ _ ⟨b, off, p, c, e, h1, h2⟩ hb => ⟨b, off, p, c, e, h1.below hb, h2.below hb⟩⟩
def fTup2 (φ ψ : Fact) : Fact := ⟨fun v x => ∃ a b, v = .tuple #[a, b] ∧ φ.holds a x ∧ ψ.holds b x, fun _ _ _ ⟨a, b, e, h1, h2⟩ hb => ⟨a, b, e, φ.mono _ _ _ h1 hb, ψ.mono _ _ _ h2 hb⟩⟩

/-- an element of a store, at its place -/
theorem store_elem {S : Nat → Prop} {x : World} {a : Option Addr} {n c : Nat} {l : List Obj} (h : StoreV S x (.slice a n c) l) {i : Nat} (hi : i < l.length) :
    ∃ b off p c', a = some ⟨b, off, none⟩ ∧ ObjAt x (obj l i) b (off + i * 4) (.slice p (obj l i).links.length c') ∧ ObjIs (fun _ => True) x (obj l i) (.slice p (obj l i).links.length c') := by
  obtain ⟨a5, n5, c5, la5, ln5, lc5, HN5, e5, _, _, _, h45, h55⟩ := h.open
  cases e5
  have hn := HN5.out.1
  obtain ⟨b, off, rfl, _, k0, k1, k2, k3⟩ := h45 (by omega)
  have hln := HN5.out.2 i
  refine ⟨b, off, la5 i, lc5 i, rfl, ?_, ?_⟩
  · rw [← hln]
    exact ⟨k0 i x (by omega) (Below.refl _ _), k1 i x (by omega) (Below.refl _ _), k2 i x (by omega) (Below.refl _ _), k3 i x (by omega) (Below.refl _ _)⟩
  · have := (h55 i (by omega)).weaken (S' := fun _ => True) fun _ _ => trivial
    rw [← hln]; exact this
end Go.Proofs.YtjkbaallfkjmhaaGreat

/- Walks: the law's first test of stores. -/
namespace Go.Proofs.YtjkbaallfkjmhaaGreat
open Go.RowKit
set_option linter.unusedVariables false
set_option linter.unusedSimpArgs false

def moreL : List Obj := [obj shelfL 4, obj shelfL 2, obj shelfL 3, obj shelfL 0]
theorem begun_s1 : addL (shelfL.take 2) moreL = shelfL := by kernel_rfl
theorem begun_s2 : addE (shelfL.take 2) moreL = 0 := by decide +kernel
theorem begun_s3 : findE shelfL 4 = 0 := by decide +kernel
theorem begun_s4 : findE shelfL 9 = 5 := by decide +kernel
theorem begun_s5 : addE shelfL [⟨5, 3, [4], ByteArray.empty⟩] = 6 := by decide +kernel
theorem begun_s6 : checkStore shelfL = 0 := by decide +kernel

end Go.Proofs.YtjkbaallfkjmhaaGreat
