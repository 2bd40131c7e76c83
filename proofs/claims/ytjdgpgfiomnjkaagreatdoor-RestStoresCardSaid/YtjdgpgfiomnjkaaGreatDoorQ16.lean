
/- RefB: OutRow, Swap, RefWith, RefAdd, FlowS, Begun2. -/
import Derived.Test.YtjdgpgfiomnjkaaGreatDoorQ12
import Derived.Laws.OwnMore
import Derived.Deep.DeepCutAuto
import Derived.RegionTactic
import Derived.ChangeAlike
import Derived.Test.YtjdgpgfiomnjkaaGreatDoorQ0
import Derived.Test.YtjdgpgfiomnjkaaGreatDoorQ6
namespace Go.Proofs.YtjdgpgfiomnjkaaGreatDoor
open Go.RowKit
set_option linter.unusedVariables false
set_option linter.unusedSimpArgs false
set_option linter.unusedSectionVars false
variable [Ghost]
theorem append_objs {w : World} {lv : Value} {l : List Obj} {S : Nat → Prop} (ty : TypeId) (h : StoreV S w lv l) (hl : l.length ≤ 1000) :
  ∃ g c x, (Builtin.append_ #[22, 22] ty #[.slice (some ⟨w.heap.size, 0, none⟩) 0 0, lv]).run Tryz.prog (w.alloc (.cells #[] 46)) = .ok (.slice (some ⟨g, 0, none⟩) l.length c) x ∧
   GathS (fun b => S b ∧ b < w.heap.size) w.heap.size x (.slice (some ⟨g, 0, none⟩) l.length c) l ∧ Below w.heap.size w x := by
 obtain ⟨i0, hi, hz0, hz1, hz2⟩ := info_parts Tryz.infoObj
 have hown : (w.alloc (.cells #[] 46)).ownsRow w.heap.size 46 4 (.slice (some ⟨w.heap.size, 0, none⟩) 0 0) 0 [] :=
  ⟨rfl, .inr ⟨w.heap.size, 0, #[], rfl, Nat.le_refl _, heap_alloc_new w _, Nat.le_refl _, by unfold maxLen; omega, rfl, rfl⟩⟩
 have hB1 : Below w.heap.size w (w.alloc (.cells #[] 46)) := (Below.refl _ _).alloc (Nat.le_refl _) _
 obtain ⟨lvs, ⟨a, cap, rfl, h1, h2, h3, h4⟩, h5⟩ := h.lt
 by_cases h0 : l.length = 0
 ·obtain rfl : l = [] := List.length_eq_zero_iff.1 h0
  refine ⟨w.heap.size, 0, _, run_append_nothing _ 22 22 ty 46 i0 Tryz.underlying22 hi (some ⟨w.heap.size, 0, none⟩) 0 0 (Nat.le_refl _) _
   ⟨.inl ⟨_, Tryz.underlying22⟩, fun w' => by simp [Builtin.lenOf], by cases a <;> simp [Builtin.firstCells] <;> rfl, by cases a <;> simp [Builtin.firstCells] <;> rfl, by simp, by simp⟩, ⟨fun _ => .nilFunc, fun b (hb : S b ∧ b < w.heap.size) => ⟨by simp; omega, fun e => by cases e; exact Nat.lt_irrefl _ hb.2⟩, hown, fun i hi => by simp at hi⟩, hB1⟩
 ·obtain ⟨b, off, rfl, ⟨hb, _⟩, hc⟩ := h4 (by omega)
  obtain ⟨g', c', x', hr, ho, hg, hor, hlt⟩ := run_append_lies (P := Tryz.prog) (w.alloc (.cells #[] 46)) 22 ty w.heap.size 46 i0 _ 4 56 Tryz.underlying22 hi hz0 hz1 hz2 rfl (by omega) _ 0 [] hown ⟨b, off, none⟩ l.length cap (flat (fun i => objCells (obj l i) (lvs i)) l.length) (flat_length fun _ _ => rfl)
   (fun j u hu => by
    have hj : j < l.length * 4 := by
     rcases Nat.lt_or_ge j (l.length * 4) with h | h
     ·exact h
     ·rw [List.getElem?_eq_none (by rw [flat_length (sz := 4) fun _ _ => rfl]; exact h)] at hu; cases hu
    have hi' : j / 4 < l.length := by omega
    have hm : j % 4 < (objCells (obj l (j / 4)) (lvs (j / 4))).length := by show j % 4 < 4; omega
    have e := flat_get (cs := fun i => objCells (obj l i) (lvs i)) (sz := 4) (n := l.length) (fun _ _ => rfl) (j / 4) hi' (j % 4) _ (List.getElem?_eq_getElem hm)
    rw [show j / 4 * 4 + j % 4 = j by omega, hu] at e
    have := hc (j / 4) hi' (j % 4) u (by rw [List.getElem?_eq_getElem hm]; exact e.symm)
    rw [show (⟨b, off, none⟩ : Addr).add j = ⟨b, off + j, none⟩ by unfold Addr.add; split <;> simp_all]
    rw [show off + j = off + j / 4 * 4 + j % 4 by omega, hB1.cell (p := ⟨b, off + j / 4 * 4 + j % 4, none⟩) hb.2]; exact this)
   (one_flat fun i hi => one_cells (h5 i hi)) (by omega) (by unfold maxLen; omega) (by omega) (by simp) _ rfl
  have hB2 : Below w.heap.size w x' := Below.grown hB1 hg (by simp) (fun k hk => (hown.lt k hk).1)
  refine ⟨g', c', x', by simpa using hr, ⟨lvs, fun b (hb : S b ∧ b < w.heap.size) => ⟨by have := hB2.size; omega, fun e => ?_⟩, by simpa using ho, fun i hi => (h5 i hi).below hB2⟩, hB2⟩
  have e' : g' = b := by simpa [Value.ownBlock] using e
  rcases hor with h | h
  ·have : w.heap.size = g' := by simpa [Value.ownBlock] using h
   omega
  ·simp at h; omega
end Go.Proofs.YtjdgpgfiomnjkaaGreatDoor
namespace Go.Proofs.YtjdgpgfiomnjkaaGreatDoor
open Go.RowKit
set_option linter.unusedVariables false
set_option linter.unusedSimpArgs false
set_option linter.unusedSectionVars false
variable [Ghost]
def set4At (g o : Nat) (v0 v1 v2 v3 : Value) (w : World) : World := (((w.setCell ⟨g, o, none⟩ v0).setCell ⟨g, o + 1, none⟩ v1).setCell ⟨g, o + 2, none⟩ v2).setCell ⟨g, o + 3, none⟩ v3
theorem set4At_upd (g o : Nat) (v0 v1 v2 v3 : Value) (w : World) : Upd (fun x => x = g) w (set4At g o v0 v1 v2 v3 w) :=
 Upd.setCell (T := fun x => x = g) (Upd.setCell (T := fun x => x = g) (Upd.setCell (T := fun x => x = g) (Upd.setCell (T := fun x => x = g) (Upd.refl (fun x => x = g) w) (fun _ => rfl) v0) (fun _ => rfl) v1) (fun _ => rfl) v2) (fun _ => rfl) v3
theorem flat_at {cs : Nat → List Value} {n : Nat} (h : ∀ i, i < n → (cs i).length = 4) {m : Nat} (hm : m < n * 4) : (flat cs n)[m]? = (cs (m / 4))[m % 4]? := by
 have hi : m / 4 < n := by omega
 have hj : m % 4 < (cs (m / 4)).length := by rw [h _ hi]; omega
 have := flat_get (sz := 4) h (m / 4) hi (m % 4) _ (List.getElem?_eq_getElem hj)
 rw [show m / 4 * 4 + m % 4 = m by omega] at this
 rw [this, List.getElem?_eq_getElem hj]
theorem flat_set {cs : Nat → List Value} {n i : Nat} (h : ∀ j, j < n → (cs j).length = 4) (hi : i < n) (v0 v1 v2 v3 : Value) :
  ((((flat cs n).set (i * 4) v0).set (i * 4 + 1) v1).set (i * 4 + 2) v2).set (i * 4 + 3) v3 = flat (fun j => if j = i then [v0, v1, v2, v3] else cs j) n := by
 have hl := flat_length (sz := 4) h
 have hl' : (flat (fun j => if j = i then [v0, v1, v2, v3] else cs j) n).length = n * 4 := flat_length (sz := 4) fun j hj => by
  by_cases e : j = i
  ·simp [e]
  ·simp only [if_neg e]; exact h j hj
 apply List.ext_getElem?
 intro m
 by_cases hm : m < n * 4
 ·rw [flat_at (fun j hj => by
   by_cases e : j = i
   ·simp [e]
   ·simp only [if_neg e]; exact h j hj) hm]
  simp only [List.getElem?_set, List.length_set, hl]
  by_cases e : m / 4 = i
  ·rw [if_pos e]
   have : m % 4 = 0 ∨ m % 4 = 1 ∨ m % 4 = 2 ∨ m % 4 = 3 := by omega
   rcases this with k | k | k | k
   ·rw [if_neg (by omega), if_neg (by omega), if_neg (by omega), if_pos (by omega), if_pos (by omega), k]; rfl
   ·rw [if_neg (by omega), if_neg (by omega), if_pos (by omega), if_pos (by omega), k]; rfl
   ·rw [if_neg (by omega), if_pos (by omega), if_pos (by omega), k]; rfl
   ·rw [if_pos (by omega), if_pos (by omega), k]; rfl
  ·rw [if_neg (by omega), if_neg (by omega), if_neg (by omega), if_neg (by omega), if_neg e, flat_at h hm]
 ·rw [List.getElem?_eq_none (by simp only [List.length_set, hl]; omega), List.getElem?_eq_none (by rw [hl']; omega)]
theorem set4At_own {w : World} {B g n cap o : Nat} {e : TypeId} {xs : List Value} (h : w.ownsRow B e 4 (.slice (some ⟨g, 0, none⟩) n cap) n xs) (v0 v1 v2 v3 : Value) :
  (set4At g o v0 v1 v2 v3 w).ownsRow B e 4 (.slice (some ⟨g, 0, none⟩) n cap) n ((((xs.set o v0).set (o + 1) v1).set (o + 2) v2).set (o + 3) v3) :=
 (((((h.stored o v0).1).stored (o + 1) v1).1.stored (o + 2) v2).1.stored (o + 3) v3).1
def swapL (l : List Obj) (i : Nat) : List Obj := l.take i ++ obj l (i + 1) :: obj l i :: l.drop (i + 2)
theorem swapL_length {l : List Obj} {i : Nat} (h : i + 1 < l.length) : (swapL l i).length = l.length := by
 unfold swapL; rw [List.length_append, List.length_cons, List.length_cons, List.length_take, List.length_drop]; omega
theorem swapL_at {l : List Obj} {i : Nat} (h : i + 1 < l.length) (j : Nat) : obj (swapL l i) j = if j = i then obj l (i + 1) else if j = i + 1 then obj l i else obj l j := by
 unfold swapL obj at_
 simp only [List.getD_eq_getElem?_getD]
 rcases Nat.lt_trichotomy j i with h1 | rfl | h1
 ·rw [if_neg (by omega), if_neg (by omega), List.getElem?_append_left (by rw [List.length_take]; omega), List.getElem?_take, if_pos h1]
 ·rw [if_pos rfl, List.getElem?_append_right (by rw [List.length_take]; omega), List.length_take, show j - min j l.length = 0 by omega]; rfl
 ·rw [if_neg (by omega), List.getElem?_append_right (by rw [List.length_take]; omega), List.length_take]
  by_cases h2 : j = i + 1
  ·rw [if_pos h2, show j - min i l.length = 1 by omega]; rfl
  ·rw [if_neg h2, show j - min i l.length = (j - (i + 2)) + 2 by omega, List.getElem?_cons_succ, List.getElem?_cons_succ, List.getElem?_drop, show i + 2 + (j - (i + 2)) = j by omega]
theorem swap_ins {l : List Obj} {i : Nat} {o : Obj} (h : i < l.length) : swapL (ins l (i + 1) o) i = ins l i o := by
 have hl1 : i + 1 < (ins l (i + 1) o).length := by rw [ins_length (by omega)]; omega
 apply List.ext_getElem
 ·rw [swapL_length hl1, ins_length (by omega), ins_length (by omega)]
 ·intro j h1 h2
  rw [← obj_lt h1, ← obj_lt h2, swapL_at hl1]
  rcases Nat.lt_trichotomy j i with k | rfl | k
  ·rw [if_neg (by omega), if_neg (by omega), ins_lt (by omega) (by omega), ins_lt (by omega) k]
  ·rw [if_pos rfl, ins_eq (by omega), ins_eq (by omega)]
  ·rw [if_neg (by omega)]
   obtain ⟨c, rfl⟩ : ∃ c, j = c + 1 := ⟨j - 1, by omega⟩
   by_cases h3 : c + 1 = i + 1
   ·rw [if_pos h3, ins_lt (by omega) (by omega), ins_gt (by omega) (by omega), show c = i by omega]
   ·rw [if_neg h3, ins_gt (by omega) (by omega), ins_gt (by omega) (by omega)]
theorem swap_gath {S : Nat → Prop} {B : Nat} {w : World} {v : Value} {l : List Obj} {i : Nat} (hG : GathS S B w v l) (hi : i + 1 < l.length) :
  ∃ (g cap : Nat) (p p' : Option Addr) (c c' : Nat), v = .slice (some ⟨g, 0, none⟩) l.length cap ∧ l.length ≤ cap ∧
   w.cell? ⟨g, i * 4, none⟩ = some (.int .i64 (obj l i).id) ∧ w.cell? ⟨g, i * 4 + 1, none⟩ = some (.int .i64 (obj l i).kind) ∧ w.cell? ⟨g, i * 4 + 2, none⟩ = some (.slice p (obj l i).links.length c) ∧ w.cell? ⟨g, i * 4 + 3, none⟩ = some (.string (obj l i).text) ∧
   w.cell? ⟨g, (i + 1) * 4, none⟩ = some (.int .i64 (obj l (i + 1)).id) ∧ w.cell? ⟨g, (i + 1) * 4 + 1, none⟩ = some (.int .i64 (obj l (i + 1)).kind) ∧ w.cell? ⟨g, (i + 1) * 4 + 2, none⟩ = some (.slice p' (obj l (i + 1)).links.length c') ∧ w.cell? ⟨g, (i + 1) * 4 + 3, none⟩ = some (.string (obj l (i + 1)).text) ∧
   (∀ j, w.frozen? ⟨g, j, none⟩ = false) ∧ B ≤ g ∧ g < w.heap.size ∧
   ∀ x : World, (∀ b : Nat, x.heap[b]? = w.heap[b]?) → x.heap.size = w.heap.size →
    GathS S B (set4At g (i * 4) (.int .i64 (obj l (i + 1)).id) (.int .i64 (obj l (i + 1)).kind) (.slice p' (obj l (i + 1)).links.length c') (.string (obj l (i + 1)).text) (set4At g ((i + 1) * 4) (.int .i64 (obj l i).id) (.int .i64 (obj l i).kind) (.slice p (obj l i).links.length c) (.string (obj l i).text) x)) v (swapL l i) := by
 obtain ⟨lvs, h1, h2, h3⟩ := hG
 obtain ⟨⟨p, c⟩, hp⟩ := (h3 i (by omega)).1.shape
 obtain ⟨⟨p', c'⟩, hp'⟩ := (h3 (i + 1) hi).1.shape
 have hv : ∃ g cap, v = .slice (some ⟨g, 0, none⟩) l.length cap ∧ l.length ≤ cap ∧ B ≤ g ∧ g < w.heap.size := by
  rcases h2.2 with ⟨rfl, hn⟩ | ⟨g, cap, cur, rfl, hB, hh, hc, _⟩
  ·omega
  ·exact ⟨g, cap, rfl, hc, hB, lt_of_block hh⟩
 obtain ⟨g, cap, rfl, hcap, hB, hg⟩ := hv
 have hlen : ∀ j, j < l.length → (objCells (obj l j) (lvs j)).length = 4 := fun _ _ => rfl
 have hcell : ∀ j, j < l.length → ∀ m u, (objCells (obj l j) (lvs j))[m]? = some u → w.cell? ⟨g, j * 4 + m, none⟩ = some u := fun j hj m u hu => by
  have e := flat_get (cs := fun i => objCells (obj l i) (lvs i)) (sz := 4) hlen j hj m u hu
  have hm : m < 4 := by
   rcases Nat.lt_or_ge m 4 with h | h
   ·exact h
   ·rw [List.getElem?_eq_none (by exact h)] at hu; cases hu
  rw [h2.cellAt _ (by omega)]; exact e
 simp only at hp hp'
 refine ⟨g, cap, p, p', c, c', rfl, hcap, ?_⟩
 rw [← hp, ← hp']
 refine ⟨
  hcell i (by omega) 0 _ rfl, hcell i (by omega) 1 _ rfl, hcell i (by omega) 2 _ rfl, hcell i (by omega) 3 _ rfl,
  hcell (i + 1) hi 0 _ rfl, hcell (i + 1) hi 1 _ rfl, hcell (i + 1) hi 2 _ rfl, hcell (i + 1) hi 3 _ rfl, fun j => h2.frozenAt j, hB, hg, fun x hx hxs => ?_⟩
 have hox : x.ownsRow B 46 4 (.slice (some ⟨g, 0, none⟩) l.length cap) l.length (flat (fun i => objCells (obj l i) (lvs i)) l.length) := by
  refine ⟨h2.1, ?_⟩
  rcases h2.2 with h | ⟨g', cap', cur, e, hB', hh, r⟩
  ·exact .inl h
  ·exact .inr ⟨g', cap', cur, e, hB', by rw [hx]; exact hh, r⟩
 have hu : Upd (fun b => b = g) x (set4At g (i * 4) (.int .i64 (obj l (i + 1)).id) (.int .i64 (obj l (i + 1)).kind) (lvs (i + 1)) (.string (obj l (i + 1)).text) (set4At g ((i + 1) * 4) (.int .i64 (obj l i).id) (.int .i64 (obj l i).kind) (lvs i) (.string (obj l i).text) x)) :=
  (set4At_upd g _ _ _ _ _ x).trans (set4At_upd g _ _ _ _ _ _) (fun _ _ h => h)
 have h4 := set4At_own (o := i * 4) (set4At_own (o := (i + 1) * 4) hox (.int .i64 (obj l i).id) (.int .i64 (obj l i).kind) (lvs i) (.string (obj l i).text)) (.int .i64 (obj l (i + 1)).id) (.int .i64 (obj l (i + 1)).kind) (lvs (i + 1)) (.string (obj l (i + 1)).text)
 rw [flat_set hlen hi, flat_set (fun j hj => by
  by_cases e : j = i + 1
  ·simp [e]
  ·simp only [if_neg e]; exact hlen j hj) (by omega)] at h4
 have hoi : ∀ j, j < l.length → ObjIs S x (obj l j) (lvs j) := fun j hj => (h3 j hj).same fun b _ => hx b
 refine ⟨fun j => if j = i then lvs (i + 1) else if j = i + 1 then lvs i else lvs j, fun b hb => ?_, ?_, fun j hj => ?_⟩
 ·have := h1 b hb
  exact ⟨by have := hu.size; omega, this.2⟩
 ·rw [swapL_length hi]
  have e : flat (fun j => objCells (obj (swapL l i) j) (if j = i then lvs (i + 1) else if j = i + 1 then lvs i else lvs j)) l.length =
    flat (fun j => if j = i then [.int .i64 (obj l (i + 1)).id, .int .i64 (obj l (i + 1)).kind, lvs (i + 1), .string (obj l (i + 1)).text] else if j = i + 1 then [.int .i64 (obj l i).id, .int .i64 (obj l i).kind, lvs i, .string (obj l i).text] else objCells (obj l j) (lvs j)) l.length :=
   flat_congr fun j hj => by
    rw [swapL_at hi]
    by_cases e1 : j = i
    ·simp [e1, objCells]
    ·by_cases e2 : j = i + 1
     ·simp [e2, objCells]
     ·simp [e1, e2]
  rw [e]; exact h4
 ·rw [swapL_length hi] at hj
  have hn : ∀ b, b = g → ¬ S b := fun b hb hS => (h1 b hS).2 (by rw [hb]; rfl)
  rw [swapL_at hi]
  by_cases e1 : j = i
  ·simp only [if_pos e1]; exact (hoi _ hi).upd hu (fun b hS e => hn b e hS)
  ·simp only [if_neg e1]
   by_cases e2 : j = i + 1
   ·simp only [if_pos e2]; exact (hoi _ (by omega)).upd hu (fun b hS e => hn b e hS)
   ·simp only [if_neg e2]; exact (hoi _ hj).upd hu (fun b hS e => hn b e hS)
end Go.Proofs.YtjdgpgfiomnjkaaGreatDoor
namespace Go.Proofs.YtjdgpgfiomnjkaaGreatDoor
open Go.RowKit
set_option linter.unusedVariables false
set_option linter.unusedSimpArgs false
set_option linter.unusedSectionVars false
variable [Ghost]
theorem ins_all (l : List Obj) (o : Obj) : ins l l.length o = l ++ [o] := by unfold ins; rw [List.take_length, List.drop_length]
set_option maxRecDepth 100000 in
set_option maxHeartbeats 4000000 in
theorem withA_any (l more : List Obj) (lv mv : Value) (S S' : Nat → Prop) (w : World) (h : StoreV S w lv l) (hm : StoreV S' w mv more) (hr : Rising l) (hl : l.length ≤ 500) (hml : more.length ≤ 400) :
  Calls Tryz.prog 135 #[lv, mv] w fun e w' => RetStoreA (fun b => S b ∨ S' b) w w' e (withL l more) (withE l more) := by
 obtain ⟨g0, c0, x0, hap, hG0, hB0⟩ := append_objs 22 h (by omega)
 obtain ⟨ma, n, mc, la, ln, lc, HN, rfl, h1, h2, h3, h4, h5⟩ := hm.lt.open
 obtain ⟨sa, sc, rfl⟩ := h.vshape
 have Hn := Lib.hid HN.out.1
 have HwE := Lib.hid (show withE l more = if scan (joinErr l more) n = 0 then checkStore (joined l more n) else scan (joinErr l more) n by rw [Hn.out]; rfl)
 have HwL := Lib.hid (show withL l more = if withE l more = 0 then joined l more n else [] by rw [Hn.out]; rfl)
 have hn400 : n ≤ 400 := by rw [Hn.out]; exact hml
 have Hjl := Lib.hid (show ∀ k, (joined l more k).length ≤ 500 + k from fun k => by have := joined_length l more k; omega)
 have Hjr := Lib.hid (joined_rising hr more)
 have HG0 := Lib.hid (show GathA (fun b => S b ∨ S' b) w.heap.size x0 _ _ from ⟨_, hG0, fun b hb => .inl hb.1⟩)
 have HB0 := Lib.hid hB0
 have H5 := Lib.hid h5
 clear h hG0 hB0 hm hr hl hml h5 HN
 go_enter Tryz.func135, Tryz.ntmps135
 go_wp2_with (at_builtin; refine wpList_append_run rfl _ _ 22 rfl _ _ _ rfl rfl hap ?_)
 clear hap
 go_loopw [6, 7] (fun v i wr => ∃ k : Nat, k ≤ n ∧ i = .int .i64 k ∧ Hid (scan (joinErr l more) k = 0) ∧ Hid (GathA (fun b => S b ∨ S' b) w.heap.size wr v (joined l more k) ∧ Below w.heap.size w wr)) (fun _ i _ => n - (intOf i).toNat)
 case atStart => exact ⟨0, by omega, rfl, rfl, ⟨HG0.out, HB0.out⟩⟩
 case round =>
  obtain ⟨k, hk, rfl, Hs, HX⟩ := hrel
  obtain ⟨wo, rfl⟩ : ∃ wo : World, wo = wr := ⟨_, rfl⟩
  by_cases hlt : k < n
  ·have hjl := Hjl.out k
   have hjr := Hjr.out k
   obtain ⟨b, off, rfl, hb, k0, k1, k2, k3⟩ := h4 (by omega)
   have x0 := k0 k wo hlt HX.out.2
   have x1 := k1 k wo hlt HX.out.2
   have x2 := k2 k wo hlt HX.out.2
   have x3 := k3 k wo hlt HX.out.2
   have Hst := Lib.hid (HX.out.1.store (by omega))
   have hat0 := hjr.at_ (obj more k).id
   have hHat := objectAt_any (joined l more k) _ _ (obj more k).id wo Hst.out
   obtain ⟨va, vc, hvs⟩ := HX.out.1.shape
   subst hvs
   have hi1 : (0 : Int) ≤ (k : Int) := by omega
   have hi2 : (k : Int) < (n : Int) := by omega
   have hjs := joined_length l more k
   have HjE := Lib.hid (show joinErr l more k = joinE (joined l more k) (obj more k) from rfl)
   have HjL := Lib.hid (show joined l more (k + 1) = joinL (joined l more k) (obj more k) from rfl)
   cases hat : isAt (joined l more k) (obj more k).id
   ·have HL := Lib.hid (show joined l more (k + 1) = ins (joined l more k) (lo (joined l more k) (obj more k).id) (obj more k) by rw [HjL.out]; unfold joinL; rw [if_neg (by simp [hat])])
    have HE := Lib.hid (show joinErr l more k = 0 by rw [HjE.out]; unfold joinE; simp [hat])
    have hlo := lo_le (joined l more k) (obj more k).id
    have Hlt := Lib.hid (hjr.lo_lt (id := (obj more k).id))
    have Hgt := Lib.hid (hjr.lo_gt hat)
    rw [hat] at hat0
    rw [show atOf (joined l more k) (obj more k).id = -1 from hat0] at hHat
    have HHat := Lib.hid hHat
    have Ho := Lib.hid (H5.out k hlt)
    clear hHat hat0 hat hjr HjE HjL
    generalize lo (joined l more k) (obj more k).id = q at *
    go_wp2_with fail
    refine HHat.out.mono ?_
    rintro e w' ⟨rfl, rfl⟩
    go_wp2_with fail
    go_quiet (fail)
    have hbN : Below wo.heap.size wo (wo.drewN nq) := below_drewN wo _ nq (Below.refl _ _)
    have HB2 := Lib.hid (HX.out.2.trans (hbN.mono HX.out.2.size))
    have HG2 := Lib.hid (HX.out.1.below hbN)
    have y0 := k0 k _ hlt HB2.out
    have y1 := k1 k _ hlt HB2.out
    have y2 := k2 k _ hlt HB2.out
    have y3 := k3 k _ hlt HB2.out
    have Ho2 := Lib.hid (Ho.out.below HB2.out)
    have hsz := HB2.out.size
    have Hsep := Lib.hid (show ∀ b, (S' b ∧ b < w.heap.size) → b < (wo.drewN nq).heap.size ∧ (Value.slice va (joined l more k).length vc).ownBlock ≠ some b from
     fun b hb => ⟨by omega, fun e => by have := (HG2.out.block e).1; omega⟩)
    clear x0 x1 x2 x3 k0 k1 k2 k3 h4
    generalize wo.drewN nq = w2 at *
    clear hbN
    obtain ⟨S1, hGS1, hSA1⟩ := HG2.out
    go_wp2_with (at_builtin; refine wpList_append_objS rfl _ _ rfl hGS1 Ho2.out rfl Hsep.out (by omega) hsz rfl rfl (by first | rfl | simp) ?_)
    intro v' w5 hG5 hu5
    have HB5 := Lib.hid (HB2.out.trans (hu5.below (B := w.heap.size) hsz (fun b hb => (HG2.out.block hb).1)))
    have HG5 := Lib.hid (show GathA (fun b => S b ∨ S' b) w.heap.size w5 v' (ins (joined l more k) (joined l more k).length (obj more k)) by rw [ins_all]; exact ⟨_, hG5, fun b hb => hb.elim (hSA1 b) (fun h => .inr h.1)⟩)
    obtain ⟨va', vc', hvs'⟩ := hG5.gath.shape
    rw [List.length_append, List.length_singleton] at hvs'
    subst hvs'
    clear hG5 hu5 y0 y1 y2 y3 HG2 Ho2 Hsep HB2 HHat
    go_wp2_with fail
    obtain ⟨N, hN⟩ : ∃ N, N = (joined l more k).length + 1 := ⟨_, rfl⟩
    rw [← hN]
    have HNN := Lib.hid hN
    have hN1 : N ≤ 901 := by omega
    rw [← hN] at HG5
    clear hN
    go_loopw [9] (fun i wx => ∃ m : Nat, q ≤ m ∧ m ≤ (joined l more k).length ∧ i = .int .i64 m ∧ Hid (GathA (fun b => S b ∨ S' b) w.heap.size wx (.slice va' N vc') (ins (joined l more k) m (obj more k)) ∧ Below w.heap.size w wx)) (fun i _ => (intOf i).toNat)
    case atStart => exact ⟨_, hlo, Nat.le_refl _, by go_num, HG5.out, HB5.out⟩
    case round =>
     obtain ⟨m, hqm, hmj, rfl, HY⟩ := hrel
     have hmN : m < N := by have := HNN.out; omega
     have him : (m : Int) < (N : Int) := by omega
     have hi0 : (0 : Int) ≤ (m : Int) := by omega
     by_cases hqq : q < m
     ·have hil : m - 1 + 1 < (ins (joined l more k) m (obj more k)).length := by rw [ins_length hmj]; omega
      obtain ⟨S5, hGS, hS5⟩ := (show GathA (fun b => S b ∨ S' b) w.heap.size wr (.slice va' N vc') (ins (joined l more k) m (obj more k)) from HY.out.1)
      obtain ⟨g, cap, p6, p7, n6, n7, ev, hcap, c0, c1, c2, c3, d0, d1, d2, d3, hfz, hgB, hgw, Hsw⟩ := swap_gath hGS hil
      rw [ins_length hmj, ← HNN.out] at ev hcap
      cases ev
      rw [show m - 1 + 1 = m by omega] at d0 d1 d2 d3 Hsw
      rw [ins_eq hmj] at d0 d1 d2 d3 Hsw
      rw [ins_lt hmj (show m - 1 < m by omega)] at c0 c1 c2 c3 Hsw
      have Hswap := Lib.hid Hsw
      have hgt : (obj more k).id < (obj (joined l more k) (m - 1)).id := Hgt.out (m - 1) (by omega) (by omega)
      have hm1 : (1 : Int) ≤ (m : Int) := by omega
      have hm0 : (0 : Int) < (m : Int) := by omega
      have hm0n : 0 < m := by omega
      have hm2 : (m : Int) - 1 < (N : Int) := by omega
      have hm3 : (0 : Int) ≤ (m : Int) - 1 := by omega
      have htn : ((m : Int) - 1).toNat = m - 1 := by omega
      have hwr := wrap_in (n := (m : Int) - 1) (by omega)
      clear Hsw hGS
      go_wp2_with fail
      go_quiet (fail)
      have hsame : ∀ b : Nat, (wr.drewN nq).heap[b]? = wr.heap[b]? := fun _ => rfl
      have HSW := Lib.hid (fun x (h1 : ∀ b : Nat, x.heap[b]? = (wr.drewN nq).heap[b]?) (h2 : x.heap.size = (wr.drewN nq).heap.size) => Hswap.out x h1 h2)
      replace c0 : (wr.drewN nq).cell? ⟨g, (m - 1) * 4, none⟩ = _ := c0
      replace c1 : (wr.drewN nq).cell? ⟨g, (m - 1) * 4 + 1, none⟩ = _ := c1
      replace c2 : (wr.drewN nq).cell? ⟨g, (m - 1) * 4 + 2, none⟩ = _ := c2
      replace c3 : (wr.drewN nq).cell? ⟨g, (m - 1) * 4 + 3, none⟩ = _ := c3
      replace d0 : (wr.drewN nq).cell? ⟨g, m * 4, none⟩ = _ := d0
      replace d1 : (wr.drewN nq).cell? ⟨g, m * 4 + 1, none⟩ = _ := d1
      replace d2 : (wr.drewN nq).cell? ⟨g, m * 4 + 2, none⟩ = _ := d2
      replace d3 : (wr.drewN nq).cell? ⟨g, m * 4 + 3, none⟩ = _ := d3
      replace hfz : ∀ j, (wr.drewN nq).frozen? ⟨g, j, none⟩ = false := hfz
      have HYB := Lib.hid (show Below w.heap.size w (wr.drewN nq) from below_drewN w _ nq HY.out.2)
      clear hsame Hswap HY
      generalize wr.drewN nq = w6 at *
      have hG7 := HSW.out w6 (fun _ => rfl) rfl
      have hsw := swap_ins (l := joined l more k) (i := m - 1) (o := obj more k) (by omega)
      rw [show m - 1 + 1 = m by omega] at hsw
      rw [hsw] at hG7
      have hu7 := (set4At_upd g (m * 4) (.int .i64 (obj (joined l more k) (m - 1)).id) (.int .i64 (obj (joined l more k) (m - 1)).kind) (.slice p6 (obj (joined l more k) (m - 1)).links.length n6) (.string (obj (joined l more k) (m - 1)).text) w6).trans
       (set4At_upd g ((m - 1) * 4) (.int .i64 (obj more k).id) (.int .i64 (obj more k).kind) (.slice p7 (obj more k).links.length n7) (.string (obj more k).text) _) (fun _ _ h => h)
      have hB7 := HYB.out.trans (hu7.below (B := w.heap.size) HYB.out.size (fun b hb => by omega))
      obtain ⟨w7, hw7⟩ : ∃ w7, w7 = set4At g ((m - 1) * 4) (.int .i64 (obj more k).id) (.int .i64 (obj more k).kind) (.slice p7 (obj more k).links.length n7) (.string (obj more k).text)
       (set4At g (m * 4) (.int .i64 (obj (joined l more k) (m - 1)).id) (.int .i64 (obj (joined l more k) (m - 1)).kind) (.slice p6 (obj (joined l more k) (m - 1)).links.length n6) (.string (obj (joined l more k) (m - 1)).text) w6) := ⟨_, rfl⟩
      rw [← hw7] at hG7 hB7
      have HE7 := Lib.hid (And.intro (show GathA (fun b => S b ∨ S' b) w.heap.size _ _ _ from ⟨_, hG7.below (Below.refl _ _).drew, hS5⟩) (below_drew w _ hB7))
      unfold set4At at hw7
      have Hw7 := Lib.hid hw7
      clear hG7 hB7 hu7 hsw hw7 HSW HYB
      go_wp2_with fail
      go_region
      rw [← Hw7.out]
      clear Hw7 c0 c1 c2 c3 d0 d1 d2 d3 hfz
      go_wp2_with fail
      go_roundw
      case rel => exact ⟨m - 1, by omega, by omega, by go_num, HE7.out⟩
      case measure => simp [intOf]; omega
     ·obtain rfl : q = m := by omega
      by_cases hq0 : 0 < q
      ·have hil : q - 1 + 1 < (ins (joined l more k) q (obj more k)).length := by rw [ins_length hmj]; omega
       obtain ⟨S5, hGS, hS5⟩ := (show GathA (fun b => S b ∨ S' b) w.heap.size wr (.slice va' N vc') (ins (joined l more k) q (obj more k)) from HY.out.1)
       obtain ⟨g, cap, p6, p7, n6, n7, ev, hcap, c0, c1, c2, c3, d0, d1, d2, d3, hfz, hgB, hgw, Hsw⟩ := swap_gath hGS hil
       rw [ins_length hmj, ← HNN.out] at ev hcap
       cases ev
       rw [show q - 1 + 1 = q by omega] at d0
       rw [ins_eq hmj] at d0
       rw [ins_lt hmj (show q - 1 < q by omega)] at c0
       have hgt : ¬ (obj more k).id < (obj (joined l more k) (q - 1)).id := by have := Hlt.out (q - 1) (by omega); omega
       have hm1 : (1 : Int) ≤ (q : Int) := by omega
       have hm0 : (0 : Int) < (q : Int) := by omega
       have hm2 : (q : Int) - 1 < (N : Int) := by omega
       have hm3 : (0 : Int) ≤ (q : Int) - 1 := by omega
       have htn : ((q : Int) - 1).toNat = q - 1 := by omega
       have hwr := wrap_in (n := (q : Int) - 1) (by omega)
       clear Hsw hGS c1 c2 c3 d1 d2 d3 hfz
       go_wp2_with fail
       go_quiet (fail)
       have HEnd := Lib.hid (show GathA (fun b => S b ∨ S' b) w.heap.size (wr.drewN nq) (.slice (some ⟨g, 0, none⟩) N vc') (joined l more (k + 1)) ∧ Below w.heap.size w (wr.drewN nq) from
        ⟨by rw [HL.out]; exact HY.out.1.below (below_drewN wr _ nq (Below.refl _ _)), below_drewN w _ nq HY.out.2⟩)
       clear c0 d0 HY
       generalize wr.drewN nq = w6 at *
       go_wp2_with fail
       go_roundw
       case rel => exact ⟨k + 1, by omega, by go_num, scan_next Hs.out HE.out, HEnd.out⟩
       case measure => simp [intOf]; omega
      ·have hd : decide ((0 : Int) < (q : Int)) = false := by simp; omega
       go_wp2_with fail
       go_quiet (fail)
       have HEnd := Lib.hid (show GathA (fun b => S b ∨ S' b) w.heap.size (wr.drewN nq) (.slice va' N vc') (joined l more (k + 1)) ∧ Below w.heap.size w (wr.drewN nq) from
        ⟨by rw [HL.out]; exact HY.out.1.below (below_drewN wr _ nq (Below.refl _ _)), below_drewN w _ nq HY.out.2⟩)
       clear HY
       generalize wr.drewN nq = w6 at *
       go_wp2_with fail
       go_roundw
       case rel => exact ⟨k + 1, by omega, by go_num, scan_next Hs.out HE.out, HEnd.out⟩
       case measure => simp [intOf]; omega
   ·have HL := Lib.hid (show joined l more (k + 1) = joined l more k by rw [HjL.out]; unfold joinL; rw [if_pos hat])
    have hk' : lo (joined l more k) (obj more k).id < (joined l more k).length := (by unfold isAt at hat; simp at hat; exact hat.1)
    have HE := Lib.hid (show joinErr l more k = if sameObj (obj (joined l more k) (lo (joined l more k) (obj more k).id)) (obj more k) = false then 6 else 0 by rw [HjE.out]; unfold joinE; simp [hat])
    rw [hat] at hat0
    rw [show atOf (joined l more k) (obj more k).id = (lo (joined l more k) (obj more k).id : Int) from hat0] at hHat
    have HHat := Lib.hid hHat
    have Ho := Lib.hid (H5.out k hlt)
    clear hHat hat0 hat hjr HjE HjL
    generalize lo (joined l more k) (obj more k).id = q at *
    obtain ⟨R, hR, hR1, _⟩ := cls_plain wo
    obtain ⟨a5, n5, c5, la5, ln5, lc5, HN5, e5, _, _, _, h45, h55⟩ := Hst.out.open
    cases e5
    obtain ⟨b5, off5, rfl, _, z0, z1, z2, z3⟩ := h45 (by omega)
    have HS := Lib.hid (fun x (hx : In R x) => sameObject_any (obj (joined l more k) q) (obj more k) _ _ _ _ x ((h55 q hk').below (hR.below _ hx)) (Ho.out.below (HX.out.2.trans ((hR.below _ hx).mono HX.out.2.size))))
    have y0 := fun x (hx : In R x) => k0 k x hlt (HX.out.2.trans ((hR.below _ hx).mono HX.out.2.size))
    have y1 := fun x (hx : In R x) => k1 k x hlt (HX.out.2.trans ((hR.below _ hx).mono HX.out.2.size))
    have y2 := fun x (hx : In R x) => k2 k x hlt (HX.out.2.trans ((hR.below _ hx).mono HX.out.2.size))
    have y3 := fun x (hx : In R x) => k3 k x hlt (HX.out.2.trans ((hR.below _ hx).mono HX.out.2.size))
    have r0 := fun x (hx : In R x) => z0 q x hk' (hR.below _ hx)
    have r1 := fun x (hx : In R x) => z1 q x hk' (hR.below _ hx)
    have r2 := fun x (hx : In R x) => z2 q x hk' (hR.below _ hx)
    have r3 := fun x (hx : In R x) => z3 q x hk' (hR.below _ hx)
    have hRg := cls_grown hR
    have hi3 : (0 : Int) ≤ (q : Int) := by omega
    have hi4 : (q : Int) < ((joined l more k).length : Int) := by omega
    clear z0 z1 z2 z3 k0 k1 k2 k3 h4 h45 h55 HN5 x0 x1 x2 x3
    cases hs : sameObj (obj (joined l more k) q) (obj more k)
    ·have HE6 := Lib.hid (show scan (joinErr l more) n = 6 by
      have e6 : joinErr l more k = 6 := by rw [HE.out, if_pos hs]
      rw [scan_hit Hs.out (by rw [e6]; decide) hlt, e6])
     have HEnd := Lib.hid (show withE l more = 6 ∧ withL l more = [] from by
      have e1 : withE l more = 6 := by rw [HwE.out, HE6.out]; rfl
      exact ⟨e1, by rw [HwL.out, e1]; rfl⟩)
     have HB := Lib.hid HX.out.2
     rw [hs] at HS
     go_wp2_with fail
     refine HHat.out.mono ?_
     rintro e w' ⟨rfl, rfl⟩
     go_wp2_with fail
     refine wp_region_quiet_below (by kernel_rfl) (by kernel_rfl) ?_
     repeat (quiet_step (exact Calls.regrown_of (HS.out _ (hRg _ _ _ hR1))))
     refine wpQuiet_nil ?_
     intro _ hw'
     obtain ⟨⟨dq, osq⟩, hw''⟩ := hw'
     subst hw''
     have hR2 := hRg _ dq osq hR1
     generalize Go.Sort.grow (redrawn _ dq) osq = w5 at *
     go_wp2_with fail
     go_ret2
     rw [HEnd.out.1, HEnd.out.2]
     exact ⟨_, rfl, StoreV.nil _ _ _ _ (by omega), HB.out.trans ((hR.below _ hR2).mono HB.out.size)⟩
    ·have HE0 := Lib.hid (show joinErr l more k = 0 by rw [HE.out, if_neg (by rw [hs]; decide)])
     rw [hs] at HS
     go_wp2_with fail
     refine HHat.out.mono ?_
     rintro e w' ⟨rfl, rfl⟩
     go_wp2_with fail
     refine wp_region_quiet_below (by kernel_rfl) (by kernel_rfl) ?_
     repeat (quiet_step (exact Calls.regrown_of (HS.out _ (hRg _ _ _ hR1))))
     refine wpQuiet_nil ?_
     intro _ hw'
     obtain ⟨⟨dq, osq⟩, hw''⟩ := hw'
     subst hw''
     have hR2 := hRg _ dq osq hR1
     generalize Go.Sort.grow (redrawn _ dq) osq = w5 at *
     go_wp2_with fail
     have HEnd := Lib.hid (show GathA (fun b => S b ∨ S' b) w.heap.size w5 _ (joined l more (k + 1)) ∧ Below w.heap.size w w5 from
      ⟨by rw [HL.out]; exact HX.out.1.below (hR.below _ hR2), HX.out.2.trans ((hR.below _ hR2).mono HX.out.2.size)⟩)
     go_roundw
     case rel => exact ⟨k + 1, by omega, by go_num, scan_next Hs.out HE0.out, HEnd.out⟩
     case measure => simp [intOf]; omega
  ·obtain rfl : k = n := by omega
   have hjl := Hjl.out k
   have Hst := Lib.hid (HX.out.1.store (by omega))
   have HC := checkStore_any (joined l more k) _ _ wo Hst.out
   obtain ⟨va, vc, hvs⟩ := HX.out.1.shape
   subst hvs
   rw [Hs.out, if_pos rfl] at HwE
   have HB := Lib.hid HX.out.2
   by_cases hc : checkStore (joined l more k) = 0
   ·have HF := Lib.hid (show withL l more = joined l more k ∧ withE l more = 0 from ⟨by rw [HwL.out, HwE.out, if_pos hc], by rw [HwE.out, hc]⟩)
    rw [hc] at HC
    have HCk := Lib.hid HC
    clear HC hc
    go_wp2_with fail
    refine HCk.out.mono ?_
    rintro e w6 ⟨rfl, hb6⟩
    have HEnd := Lib.hid (And.intro (Hst.out.below hb6) (HB.out.trans (hb6.mono HB.out.size)))
    go_wp2_with fail
    go_ret2
    rw [HF.out.1, HF.out.2]
    exact ⟨_, rfl, HEnd.out.1, HEnd.out.2⟩
   ·have HF := Lib.hid (show withL l more = [] ∧ withE l more = checkStore (joined l more k) from ⟨by rw [HwL.out, HwE.out, if_neg hc], HwE.out⟩)
    have hq2 : (checkStore (joined l more k) != 0) = true := by simpa using hc
    have HCk := Lib.hid HC
    clear HC hc
    generalize checkStore (joined l more k) = cc at *
    go_wp2_with fail
    refine HCk.out.mono ?_
    rintro e w6 ⟨rfl, hb6⟩
    have HEnd := Lib.hid (HB.out.trans (hb6.mono HB.out.size))
    go_wp2_with fail
    go_ret2
    rw [HF.out.1, HF.out.2]
    exact ⟨_, rfl, StoreV.nil _ _ _ _ (by omega), HEnd.out⟩
end Go.Proofs.YtjdgpgfiomnjkaaGreatDoor
namespace Go.Proofs.YtjdgpgfiomnjkaaGreatDoor
open Go.RowKit
set_option linter.unusedVariables false
set_option linter.unusedSimpArgs false
set_option linter.unusedSectionVars false
variable [Ghost]
def addPre (l more : List Obj) : Int := if checkStore l ≠ 0 then checkStore l else if 12 < more.length then 2 else eachE more
theorem addE_pre (l more : List Obj) : addE l more = if addPre l more ≠ 0 then addPre l more else withE l more := by
 unfold addE addPre eachE
 by_cases h1 : checkStore l = 0
 ·by_cases h2 : 12 < more.length
  ·simp [h1, h2]
  ·simp [h1, h2]
 ·simp [h1]
theorem addPre_zero {l more : List Obj} (h : addPre l more = 0) : Rising l ∧ l.length ≤ 40 ∧ more.length ≤ 12 := by
 unfold addPre at h
 by_cases h1 : checkStore l = 0
 ·by_cases h2 : 12 < more.length
  ·simp [h1, h2] at h
  ·exact ⟨checkStore_rising h1, (checkStore_zero h1).1, by omega⟩
 ·simp [h1] at h
def PreAt (l more : List Obj) (k : Nat) (c : Int) : Prop := (c = 0 ∧ checkStore l = 0 ∧ more.length ≤ 12 ∧ scan (fun k => checkObj (obj more k)) k = 0) ∨ (c ≠ 0 ∧ c = addPre l more)
set_option maxRecDepth 100000 in
set_option maxHeartbeats 4000000 in
theorem addA_any (l more : List Obj) (lv mv : Value) (S S' : Nat → Prop) (w : World) (h : StoreV S w lv l) (hm : StoreV S' w mv more) :
  Calls Tryz.prog 73 #[lv, mv] w fun e w' => RetStoreA (fun b => S b ∨ S' b) w w' e (addL l more) (addE l more) := by
 have HC := Lib.hid (fun x (hx : Below w.heap.size w x) => checkStore_any l lv _ x (h.below hx))
 have HW := Lib.hid (fun (hp : addPre l more = 0) x (hx : Below w.heap.size w x) => withA_any l more lv mv S S' x (h.below hx) (hm.below hx) (addPre_zero hp).1 (by have := (addPre_zero hp).2; omega) (by have := (addPre_zero hp).2; omega))
 have HwE := Lib.hid (addE_pre l more)
 have HwL := Lib.hid (show addL l more = if addE l more = 0 then joined l more more.length else [] from rfl)
 have HwL2 := Lib.hid (show withL l more = if withE l more = 0 then joined l more more.length else [] from rfl)
 obtain ⟨la0, lc0, rfl⟩ := h.vshape
 obtain ⟨ma, n, mc, la, ln, lc, HN, rfl, h1, h2, h3, h4, h5⟩ := hm.open
 have Hn := Lib.hid HN.out.1
 have H5 := Lib.hid h5
 have HP := Lib.hid (show addPre l more = if checkStore l ≠ 0 then checkStore l else if 12 < n then 2 else eachE more by rw [Hn.out]; rfl)
 have Hend := Lib.hid (show (addPre l more = 0 → addE l more = withE l more ∧ addL l more = withL l more) ∧ (addPre l more ≠ 0 → addE l more = addPre l more ∧ addL l more = []) from
  ⟨fun e => by
   have e1 : addE l more = withE l more := by rw [HwE.out, if_neg (by simpa using e)]
   exact ⟨e1, by rw [HwL.out, HwL2.out, e1]⟩,
  fun e => by
   have e1 : addE l more = addPre l more := by rw [HwE.out, if_pos e]
   exact ⟨e1, by rw [HwL.out, e1, if_neg e]⟩⟩)
 clear h hm h5 HN HwE HwL HwL2
 obtain ⟨R, hR, hR1, _⟩ := cls_plain w
 have hRb := hR.below
 have hRn := hR.next
 have h3 : (checkStore l = 0 ∧ 12 < n) ∨ (checkStore l = 0 ∧ ¬ 12 < n) ∨ checkStore l ≠ 0 := by
  by_cases a : checkStore l = 0
  ·by_cases b : 12 < n
   ·exact .inl ⟨a, b⟩
   ·exact .inr (.inl ⟨a, b⟩)
  ·exact .inr (.inr a)
 rcases h3 with ⟨h1, h2⟩ | ⟨h1, h2⟩ | h1
 case' inl =>
  have hq : (checkStore l == 0) = true := by simpa using h1
  have hd : decide ((12 : Int) < (n : Int)) = true := by simp; omega
  have Hp0 := Lib.hid (show PreAt l more 0 2 from .inr ⟨by decide, by rw [HP.out]; simp [h1, h2]⟩)
  clear h1
 case' inr.inl =>
  have hq : (checkStore l == 0) = true := by simpa using h1
  have hd : decide ((12 : Int) < (n : Int)) = false := by simp; omega
  have Hp0 := Lib.hid (show PreAt l more 0 (checkStore l) from .inl ⟨h1, h1, by have := Hn.out; omega, rfl⟩)
  clear h1
 case' inr.inr =>
  have hq : (checkStore l == 0) = false := by simpa using h1
  have Hp0 := Lib.hid (show PreAt l more 0 (checkStore l) from .inr ⟨h1, by rw [HP.out]; simp [h1]⟩)
  clear h1
 all_goals
  go_enter Tryz.func73, Tryz.ntmps73
  go_wp2_with fail
  refine (HC.out _ (Below.refl _ _)).mono ?_
  rintro e w1 ⟨rfl, hb1⟩
  have hR3 := hRn _ _ hR1 hb1
  clear hb1 hR1
  go_wp2_with fail
  go_loopw [6, 7] (fun c i wx => ∃ (k : Nat) (cc : Int), k ≤ n ∧ i = .int .i64 k ∧ c = .int .i64 cc ∧ Hid (PreAt l more k cc) ∧ In R wx) (fun _ i _ => n - (intOf i).toNat)
  case atStart => exact ⟨0, _, by omega, rfl, rfl, Hp0.out, hR3⟩
  case round =>
   obtain ⟨k, cc, hk, rfl, rfl, HPk, hRw⟩ := hrel
   clear hR3
   by_cases hc : cc = 0
   ·subst hc
    have hP := HPk.out.resolve_right (fun h => h.1 rfl)
    have HP0 := Lib.hid hP
    clear hP
    have hq : ((0 : Int) == 0) = true := rfl
    by_cases hlt : k < n
    ·obtain ⟨b, off, rfl, hb, k0, k1, k2, k3⟩ := h4 (by omega)
     have x0 := k0 k wr hlt (hRb _ hRw)
     have x1 := k1 k wr hlt (hRb _ hRw)
     have x2 := k2 k wr hlt (hRb _ hRw)
     have x3 := k3 k wr hlt (hRb _ hRw)
     have HO := Lib.hid (checkObject_any (obj more k) _ _ wr ((H5.out k hlt).below (hRb _ hRw)))
     have hi1 : (0 : Int) ≤ (k : Int) := by omega
     have hi2 : (k : Int) < (n : Int) := by omega
     clear k0 k1 k2 k3 h4
     go_wp2_with fail
     refine HO.out.mono ?_
     rintro e w3 ⟨rfl, hb3⟩
     have hR4 := hRn _ _ hRw hb3
     have HPn := Lib.hid (show PreAt l more (k + 1) (checkObj (obj more k)) by
      by_cases h0 : checkObj (obj more k) = 0
      ·exact .inl ⟨h0, HP0.out.2.1, HP0.out.2.2.1, scan_next HP0.out.2.2.2 h0⟩
      ·refine .inr ⟨h0, ?_⟩
       rw [HP.out, if_neg (by simpa using HP0.out.2.1), if_neg (by have := HP0.out.2.2.1; have := Hn.out; omega)]
       unfold eachE
       rw [scan_hit HP0.out.2.2.2 h0 (by have := Hn.out; omega)])
     clear x0 x1 x2 x3 hb3 HO
     go_wp2_with fail
     go_roundw
     case rel => exact ⟨k + 1, _, by omega, by go_num, rfl, HPn, hR4⟩
     case measure => simp [intOf]; omega
    ·obtain rfl : k = n := by omega
     have hz : addPre l more = 0 := by
      rw [HP.out, if_neg (by simpa using HP0.out.2.1), if_neg (by have := HP0.out.2.2.1; have := Hn.out; omega)]
      have := HP0.out.2.2.2
      rw [Hn.out] at this; exact this
     have HE := Lib.hid (Hend.out.1 hz)
     have HWx := Lib.hid (HW.out hz wr (hRb _ hRw))
     clear hz
     go_wp2_with fail
     refine HWx.out.mono ?_
     rintro e w3 ⟨v3, rfl, hv3, hb3⟩
     obtain ⟨a3, c3, rfl⟩ := hv3.vshape
     have HF := Lib.hid (And.intro (hv3.weaken (S' := fun b => (S b ∨ S' b) ∨ w.heap.size ≤ b) fun b hb => hb.imp id (Nat.le_trans (hRb _ hRw).size)) (below_next (hRb _ hRw) hb3))
     clear hv3 hb3
     go_wp2_with fail
     go_ret2
     rw [HE.out.1, HE.out.2]
     exact ⟨_, rfl, HF.out.1, HF.out.2⟩
   ·have hP := HPk.out.resolve_left (fun h => hc h.1)
    have HE := Lib.hid (Hend.out.2 (by rw [← hP.2]; exact hc))
    have HB := Lib.hid (hRb _ hRw)
    have HP0 := Lib.hid hP
    have hq : (cc == 0) = false := by simpa using hc
    have hq2 : (cc != 0) = true := by simpa using hc
    clear hP hc h4
    by_cases hlt : k < n
    ·go_wp2_with fail
     go_ret2
     rw [HE.out.1, HE.out.2, ← HP0.out.2]
     exact ⟨_, rfl, StoreV.nil _ _ _ _ (by omega), HB.out⟩
    ·go_wp2_with fail
     go_ret2
     rw [HE.out.1, HE.out.2, ← HP0.out.2]
     exact ⟨_, rfl, StoreV.nil _ _ _ _ (by omega), HB.out⟩
end Go.Proofs.YtjdgpgfiomnjkaaGreatDoor
namespace Go.Proofs.YtjdgpgfiomnjkaaGreatDoor
open Go.RowKit
set_option linter.unusedVariables false
set_option linter.unusedSimpArgs false
set_option linter.unusedSectionVars false
variable [Ghost]
def fStore (l : List Obj) : Fact := ⟨fun v x => StoreV (fun _ => True) x v l, fun _ _ _ h hb => h.below hb⟩
def fInts (l : List Int) : Fact := ⟨fun v x => IntsV (fun _ => True) x v l, fun _ _ _ h hb => h.below hb⟩
def fObj (o : Obj) : Fact := ⟨fun v x => ∃ p c, v = .agg #[.int .i64 o.id, .int .i64 o.kind, .slice p o.links.length c, .string o.text] ∧ ObjIs (fun _ => True) x o (.slice p o.links.length c), fun _ _ _ ⟨p, c, e, h⟩ hb => ⟨p, c, e, h.below hb⟩⟩
def ObjAt (x : World) (o : Obj) (b off : Nat) (lv : Value) : Prop :=
 x.cell? ⟨b, off, none⟩ = some (.int .i64 o.id) ∧ x.cell? ⟨b, off + 1, none⟩ = some (.int .i64 o.kind) ∧ x.cell? ⟨b, off + 2, none⟩ = some lv ∧ x.cell? ⟨b, off + 3, none⟩ = some (.string o.text)
theorem ObjAt.below {x y : World} {o : Obj} {b off : Nat} {lv : Value} (h : ObjAt x o b off lv) (hb : Below x.heap.size x y) : ObjAt y o b off lv :=
 ⟨below_cell hb h.1, below_cell hb h.2.1, below_cell hb h.2.2.1, below_cell hb h.2.2.2⟩
def fPtrO (o : Obj) : Fact := ⟨fun v x => ∃ b off p c, v = .pointer (some ⟨b, off, none⟩) ∧ ObjAt x o b off (.slice p o.links.length c) ∧ ObjIs (fun _ => True) x o (.slice p o.links.length c),
 fun _ _ _ ⟨b, off, p, c, e, h1, h2⟩ hb => ⟨b, off, p, c, e, h1.below hb, h2.below hb⟩⟩
def fTup2 (φ ψ : Fact) : Fact := ⟨fun v x => ∃ a b, v = .tuple #[a, b] ∧ φ.holds a x ∧ ψ.holds b x, fun _ _ _ ⟨a, b, e, h1, h2⟩ hb => ⟨a, b, e, φ.mono _ _ _ h1 hb, ψ.mono _ _ _ h2 hb⟩⟩
theorem store_elem {S : Nat → Prop} {x : World} {a : Option Addr} {n c : Nat} {l : List Obj} (h : StoreV S x (.slice a n c) l) {i : Nat} (hi : i < l.length) :
  ∃ b off p c', a = some ⟨b, off, none⟩ ∧ ObjAt x (obj l i) b (off + i * 4) (.slice p (obj l i).links.length c') ∧ ObjIs (fun _ => True) x (obj l i) (.slice p (obj l i).links.length c') := by
 obtain ⟨a5, n5, c5, la5, ln5, lc5, HN5, e5, _, _, _, h45, h55⟩ := h.open
 cases e5
 have hn := HN5.out.1
 obtain ⟨b, off, rfl, _, k0, k1, k2, k3⟩ := h45 (by omega)
 have hln := HN5.out.2 i
 refine ⟨b, off, la5 i, lc5 i, rfl, ?_, ?_⟩
 ·rw [← hln]
  exact ⟨k0 i x (by omega) (Below.refl _ _), k1 i x (by omega) (Below.refl _ _), k2 i x (by omega) (Below.refl _ _), k3 i x (by omega) (Below.refl _ _)⟩
 ·have := (h55 i (by omega)).weaken (S' := fun _ => True) fun _ _ => trivial
  rw [← hln]; exact this
end Go.Proofs.YtjdgpgfiomnjkaaGreatDoor
namespace Go.Proofs.YtjdgpgfiomnjkaaGreatDoor
open Go.RowKit
set_option linter.unusedVariables false
set_option linter.unusedSimpArgs false
set_option linter.unusedSectionVars false
variable [Ghost]
def moreL : List Obj := [obj shelfL 4, obj shelfL 2, obj shelfL 3, obj shelfL 0]
theorem begun_s1 : addL (shelfL.take 2) moreL = shelfL := by kernel_rfl
theorem begun_s2 : addE (shelfL.take 2) moreL = 0 := by decide +kernel
theorem begun_s3 : findE shelfL 4 = 0 := by decide +kernel
theorem begun_s4 : findE shelfL 9 = 5 := by decide +kernel
theorem begun_s5 : addE shelfL [⟨5, 3, [4], ByteArray.empty⟩] = 6 := by decide +kernel
theorem begun_s6 : checkStore shelfL = 0 := by decide +kernel
set_option maxRecDepth 100000 in
set_option maxHeartbeats 4000000 in
theorem storeBegun_any (w : World) : Calls Tryz.prog 10 #[] w fun e w' => e = .returned (.bool true) ∧ Below w.heap.size w w' := by
 obtain ⟨R, hR, hR1, _⟩ := cls_plain w
 have hRb := hR.below
 have hRn := hR.next
 have hRa := hR.alloc
 go_enter Tryz.func10, Tryz.ntmps10
 go_wp2_with fail
 refine wp_flow (n := 75) (by kernel_rfl) (by kernel_rfl) rfl (facts [fStore shelfL, fStore (shelfL.take 2), fStore shelfL, fPtrO (obj shelfL 4), fObj (obj shelfL 4), fStore shelfL, fPtrO (obj shelfL 2), fObj (obj shelfL 2), fStore shelfL, fPtrO (obj shelfL 3), fObj (obj shelfL 3), fStore shelfL, fPtrO (obj shelfL 0), fObj (obj shelfL 0), fStore moreL, fTup2 (fStore shelfL) (Fact.is (.int .i64 0)), fTup2 (fStore shelfL) (Fact.is (.int .i64 0)), fStore shelfL, Fact.is (.int .i64 0), fStore shelfL, Fact.is (.int .i64 0)]) hR hR1 [(0, some 10), (1, some 11), (2, some 12), (3, some 13), (4, some 14), (5, some 15), (6, some 16), (7, some 17), (8, some 18), (9, some 19), (10, some 20), (11, some 21), (12, some 22), (13, some 23), (14, some 24), (15, some 25), (16, some 9), (17, some 26), (18, some 27), (19, some 1), (20, some 2)] (by kernel_rfl) ?_ ?_
 ·-- 0 shelf
  refine Steps.cons [] (by kernel_rfl) (fun vals x hx hh K hK => ?_) ?_
  ·rw [if_pos (by rfl)]
   simp only [puts]
   go_wp2_with fail
   refine (shelf_any _).mono ?_
   rintro e x' ⟨v, rfl, hv, hb⟩
   obtain ⟨a, c, rfl⟩ := hv.vshape
   have Hv := Lib.hid (hv.weaken (S' := fun _ => True) (fun _ _ => trivial))
   clear hv
   go_wp2_with fail
   exact hK.out _ _ rfl hb Hv.out
  -- 1 slice
  refine Steps.cons [(0, some 10)] (by kernel_rfl) (fun vals x hx hh K hK => ?_) ?_
  ·obtain ⟨h0, _⟩ := hh
   replace h0 : StoreV (fun _ => True) x (vals 0) shelfL := h0
   obtain ⟨a, c, hc, e0⟩ : ∃ a c, 5 ≤ c ∧ vals 0 = .slice a 5 c := let ⟨_, ⟨a, cap, hv, h1, _⟩, _⟩ := h0; ⟨a, cap, h1, hv⟩
   rw [e0] at h0
   have HT := Lib.hid (h0.take (i := 2) (by decide))
   have hc2 : (2 : Int) ≤ (c : Int) := by omega
   have hc3 : 2 ≤ c := by omega
   clear h0
   rw [if_pos (by rfl)]
   simp only [puts, Act.put, List.setIfInBounds_toArray, List.set_cons_zero, List.set_cons_succ, e0]
   clear e0
   go_wp2_with fail
   exact hK.out _ _ rfl (Below.refl _ _) HT.out
  -- 2 shelf
  refine Steps.cons [] (by kernel_rfl) (fun vals x hx hh K hK => ?_) ?_
  ·rw [if_pos (by rfl)]
   simp only [puts]
   go_wp2_with fail
   refine (shelf_any _).mono ?_
   rintro e x' ⟨v, rfl, hv, hb⟩
   obtain ⟨a, c, rfl⟩ := hv.vshape
   have Hv := Lib.hid (hv.weaken (S' := fun _ => True) (fun _ _ => trivial))
   clear hv
   go_wp2_with fail
   exact hK.out _ _ rfl hb Hv.out
  -- 3 indexAddr
  refine Steps.cons [(2, some 12)] (by kernel_rfl) (fun vals x hx hh K hK => ?_) ?_
  ·obtain ⟨h0, _⟩ := hh
   replace h0 : StoreV (fun _ => True) x (vals 2) shelfL := h0
   obtain ⟨a, c, hc, e0⟩ : ∃ a c, 5 ≤ c ∧ vals 2 = .slice a 5 c := let ⟨_, ⟨a, cap, hv, h1, _⟩, _⟩ := h0; ⟨a, cap, h1, hv⟩
   rw [e0] at h0
   obtain ⟨b, off, p, c', rfl, k1, k2⟩ := store_elem h0 (i := 4) (by decide)
   have HT := Lib.hid (And.intro k1 k2)
   clear h0 k1 k2
   rw [if_pos (by rfl)]
   simp only [puts, Act.put, List.setIfInBounds_toArray, List.set_cons_zero, List.set_cons_succ, e0]
   clear e0
   go_wp2_with fail
   exact hK.out _ _ rfl (Below.refl _ _) ⟨b, _, p, c', rfl, HT.out.1, HT.out.2⟩
  -- 4 load
  refine Steps.cons [(3, some 13)] (by kernel_rfl) (fun vals x hx hh K hK => ?_) ?_
  ·obtain ⟨h0, _⟩ := hh
   obtain ⟨b, off, p, c, e0, ⟨k0, k1, k2, k3⟩, h2⟩ := h0
   replace e0 : vals 3 = _ := e0
   have HT := Lib.hid h2
   clear h2
   rw [if_pos (by rfl)]
   simp only [puts, Act.put, List.setIfInBounds_toArray, List.set_cons_zero, List.set_cons_succ, e0]
   clear e0
   go_wp2_with fail
   exact hK.out _ _ rfl (Below.refl _ _) ⟨p, c, rfl, HT.out⟩
  -- 5 shelf
  refine Steps.cons [] (by kernel_rfl) (fun vals x hx hh K hK => ?_) ?_
  ·rw [if_pos (by rfl)]
   simp only [puts]
   go_wp2_with fail
   refine (shelf_any _).mono ?_
   rintro e x' ⟨v, rfl, hv, hb⟩
   obtain ⟨a, c, rfl⟩ := hv.vshape
   have Hv := Lib.hid (hv.weaken (S' := fun _ => True) (fun _ _ => trivial))
   clear hv
   go_wp2_with fail
   exact hK.out _ _ rfl hb Hv.out
  -- 6 indexAddr
  refine Steps.cons [(5, some 15)] (by kernel_rfl) (fun vals x hx hh K hK => ?_) ?_
  ·obtain ⟨h0, _⟩ := hh
   replace h0 : StoreV (fun _ => True) x (vals 5) shelfL := h0
   obtain ⟨a, c, hc, e0⟩ : ∃ a c, 5 ≤ c ∧ vals 5 = .slice a 5 c := let ⟨_, ⟨a, cap, hv, h1, _⟩, _⟩ := h0; ⟨a, cap, h1, hv⟩
   rw [e0] at h0
   obtain ⟨b, off, p, c', rfl, k1, k2⟩ := store_elem h0 (i := 2) (by decide)
   have HT := Lib.hid (And.intro k1 k2)
   clear h0 k1 k2
   rw [if_pos (by rfl)]
   simp only [puts, Act.put, List.setIfInBounds_toArray, List.set_cons_zero, List.set_cons_succ, e0]
   clear e0
   go_wp2_with fail
   exact hK.out _ _ rfl (Below.refl _ _) ⟨b, _, p, c', rfl, HT.out.1, HT.out.2⟩
  -- 7 load
  refine Steps.cons [(6, some 16)] (by kernel_rfl) (fun vals x hx hh K hK => ?_) ?_
  ·obtain ⟨h0, _⟩ := hh
   obtain ⟨b, off, p, c, e0, ⟨k0, k1, k2, k3⟩, h2⟩ := h0
   replace e0 : vals 6 = _ := e0
   have HT := Lib.hid h2
   clear h2
   rw [if_pos (by rfl)]
   simp only [puts, Act.put, List.setIfInBounds_toArray, List.set_cons_zero, List.set_cons_succ, e0]
   clear e0
   go_wp2_with fail
   exact hK.out _ _ rfl (Below.refl _ _) ⟨p, c, rfl, HT.out⟩
  -- 8 shelf
  refine Steps.cons [] (by kernel_rfl) (fun vals x hx hh K hK => ?_) ?_
  ·rw [if_pos (by rfl)]
   simp only [puts]
   go_wp2_with fail
   refine (shelf_any _).mono ?_
   rintro e x' ⟨v, rfl, hv, hb⟩
   obtain ⟨a, c, rfl⟩ := hv.vshape
   have Hv := Lib.hid (hv.weaken (S' := fun _ => True) (fun _ _ => trivial))
   clear hv
   go_wp2_with fail
   exact hK.out _ _ rfl hb Hv.out
  -- 9 indexAddr
  refine Steps.cons [(8, some 18)] (by kernel_rfl) (fun vals x hx hh K hK => ?_) ?_
  ·obtain ⟨h0, _⟩ := hh
   replace h0 : StoreV (fun _ => True) x (vals 8) shelfL := h0
   obtain ⟨a, c, hc, e0⟩ : ∃ a c, 5 ≤ c ∧ vals 8 = .slice a 5 c := let ⟨_, ⟨a, cap, hv, h1, _⟩, _⟩ := h0; ⟨a, cap, h1, hv⟩
   rw [e0] at h0
   obtain ⟨b, off, p, c', rfl, k1, k2⟩ := store_elem h0 (i := 3) (by decide)
   have HT := Lib.hid (And.intro k1 k2)
   clear h0 k1 k2
   rw [if_pos (by rfl)]
   simp only [puts, Act.put, List.setIfInBounds_toArray, List.set_cons_zero, List.set_cons_succ, e0]
   clear e0
   go_wp2_with fail
   exact hK.out _ _ rfl (Below.refl _ _) ⟨b, _, p, c', rfl, HT.out.1, HT.out.2⟩
  -- 10 load
  refine Steps.cons [(9, some 19)] (by kernel_rfl) (fun vals x hx hh K hK => ?_) ?_
  ·obtain ⟨h0, _⟩ := hh
   obtain ⟨b, off, p, c, e0, ⟨k0, k1, k2, k3⟩, h2⟩ := h0
   replace e0 : vals 9 = _ := e0
   have HT := Lib.hid h2
   clear h2
   rw [if_pos (by rfl)]
   simp only [puts, Act.put, List.setIfInBounds_toArray, List.set_cons_zero, List.set_cons_succ, e0]
   clear e0
   go_wp2_with fail
   exact hK.out _ _ rfl (Below.refl _ _) ⟨p, c, rfl, HT.out⟩
  -- 11 shelf
  refine Steps.cons [] (by kernel_rfl) (fun vals x hx hh K hK => ?_) ?_
  ·rw [if_pos (by rfl)]
   simp only [puts]
   go_wp2_with fail
   refine (shelf_any _).mono ?_
   rintro e x' ⟨v, rfl, hv, hb⟩
   obtain ⟨a, c, rfl⟩ := hv.vshape
   have Hv := Lib.hid (hv.weaken (S' := fun _ => True) (fun _ _ => trivial))
   clear hv
   go_wp2_with fail
   exact hK.out _ _ rfl hb Hv.out
  -- 12 indexAddr
  refine Steps.cons [(11, some 21)] (by kernel_rfl) (fun vals x hx hh K hK => ?_) ?_
  ·obtain ⟨h0, _⟩ := hh
   replace h0 : StoreV (fun _ => True) x (vals 11) shelfL := h0
   obtain ⟨a, c, hc, e0⟩ : ∃ a c, 5 ≤ c ∧ vals 11 = .slice a 5 c := let ⟨_, ⟨a, cap, hv, h1, _⟩, _⟩ := h0; ⟨a, cap, h1, hv⟩
   rw [e0] at h0
   obtain ⟨b, off, p, c', rfl, k1, k2⟩ := store_elem h0 (i := 0) (by decide)
   have HT := Lib.hid (And.intro k1 k2)
   clear h0 k1 k2
   rw [if_pos (by rfl)]
   simp only [puts, Act.put, List.setIfInBounds_toArray, List.set_cons_zero, List.set_cons_succ, e0]
   clear e0
   go_wp2_with fail
   exact hK.out _ _ rfl (Below.refl _ _) ⟨b, _, p, c', rfl, HT.out.1, HT.out.2⟩
  -- 13 load
  refine Steps.cons [(12, some 22)] (by kernel_rfl) (fun vals x hx hh K hK => ?_) ?_
  ·obtain ⟨h0, _⟩ := hh
   obtain ⟨b, off, p, c, e0, ⟨k0, k1, k2, k3⟩, h2⟩ := h0
   replace e0 : vals 12 = _ := e0
   have HT := Lib.hid h2
   clear h2
   rw [if_pos (by rfl)]
   simp only [puts, Act.put, List.setIfInBounds_toArray, List.set_cons_zero, List.set_cons_succ, e0]
   clear e0
   go_wp2_with fail
   exact hK.out _ _ rfl (Below.refl _ _) ⟨p, c, rfl, HT.out⟩
  -- 14 buildSlice
  refine Steps.cons [(4, some 14), (7, some 17), (10, some 20), (13, some 23)] (by kernel_rfl) (fun vals x hx hh K hK => ?_) ?_
  ·obtain ⟨h4, h7, h10, h13, _⟩ := hh
   obtain ⟨p4, c4, e4, o4⟩ := h4
   replace e4 : vals 4 = _ := e4
   obtain ⟨p7, c7, e7, o7⟩ := h7
   replace e7 : vals 7 = _ := e7
   obtain ⟨p10, c10, e10, o10⟩ := h10
   replace e10 : vals 10 = _ := e10
   obtain ⟨p13, c13, e13, o13⟩ := h13
   replace e13 : vals 13 = _ := e13
   have HT := Lib.hid (store_new (S := fun _ => True) x moreL (fun i => [Value.slice p4 2 c4, .slice p7 1 c7, .slice p10 2 c10, .slice p13 0 c13].getD i undef) 46 _ rfl (by decide) (fun i hi => by
     match i, hi with
     | 0, _ => exact o4
     | 1, _ => exact o7
     | 2, _ => exact o10
     | 3, _ => exact o13))
   clear o4 o7 o10 o13
   rw [if_pos (by rfl)]
   simp only [puts, Act.put, List.setIfInBounds_toArray, List.set_cons_zero, List.set_cons_succ, e4, e7, e10, e13]
   clear e4 e7 e10 e13
   go_wp2_with fail
   exact hK.out _ _ rfl ((Below.refl _ _).alloc (Nat.le_refl _) _) (HT.out.weaken fun _ _ => trivial)
  -- 15 Add
  refine Steps.cons [(1, some 11), (14, some 24)] (by kernel_rfl) (fun vals x hx hh K hK => ?_) ?_
  ·obtain ⟨h1, h14, _⟩ := hh
   replace h1 : StoreV (fun _ => True) x (vals 1) (shelfL.take 2) := h1
   replace h14 : StoreV (fun _ => True) x (vals 14) moreL := h14
   have HA := add_any (shelfL.take 2) moreL _ _ _ _ x h1 h14
   rw [begun_s1, begun_s2] at HA
   generalize e1 : vals 1 = v1 at *
   generalize e14 : vals 14 = v14 at *
   have HAd := Lib.hid HA
   clear h1 h14 HA
   rw [if_pos (by rfl)]
   simp only [puts, Act.put, List.setIfInBounds_toArray, List.set_cons_zero, List.set_cons_succ, e1, e14]
   clear e1 e14
   go_wp2_with fail
   refine HAd.out.mono ?_
   rintro e x' ⟨v, rfl, hv, hb⟩
   have HT := Lib.hid hv
   clear hv
   go_wp2_with fail
   exact hK.out _ _ rfl hb ⟨_, _, rfl, HT.out, rfl⟩
  -- 16 move
  refine Steps.cons [(15, some 25)] (by kernel_rfl) (fun vals x hx hh K hK => ?_) ?_
  ·obtain ⟨h0, _⟩ := hh
   obtain ⟨a, b, e0, h1, h2⟩ := h0
   replace e0 : vals 15 = _ := e0
   have HT := Lib.hid (And.intro h1 h2)
   clear h1 h2
   rw [if_pos (by rfl)]
   simp only [puts, Act.put, List.setIfInBounds_toArray, List.set_cons_zero, List.set_cons_succ, e0]
   clear e0
   go_wp2_with fail
   exact hK.out _ _ rfl (Below.refl _ _) ⟨a, b, rfl, HT.out.1, HT.out.2⟩
  -- 17 extract
  refine Steps.cons [(16, some 9)] (by kernel_rfl) (fun vals x hx hh K hK => ?_) ?_
  ·obtain ⟨h0, _⟩ := hh
   obtain ⟨a, b, e0, h1, h2⟩ := h0
   replace e0 : vals 16 = _ := e0
   have HT := Lib.hid (And.intro h1 h2)
   clear h1 h2
   rw [if_pos (by rfl)]
   simp only [puts, Act.put, List.setIfInBounds_toArray, List.set_cons_zero, List.set_cons_succ, e0]
   clear e0
   go_wp2_with fail
   exact hK.out _ _ rfl (Below.refl _ _) HT.out.1
  -- 18 extract
  refine Steps.cons [(16, some 9)] (by kernel_rfl) (fun vals x hx hh K hK => ?_) ?_
  ·obtain ⟨h0, _⟩ := hh
   obtain ⟨a, b, e0, h1, h2⟩ := h0
   replace e0 : vals 16 = _ := e0
   have HT := Lib.hid (And.intro h1 h2)
   clear h1 h2
   rw [if_pos (by rfl)]
   simp only [puts, Act.put, List.setIfInBounds_toArray, List.set_cons_zero, List.set_cons_succ, e0]
   clear e0
   go_wp2_with fail
   exact hK.out _ _ rfl (Below.refl _ _) HT.out.2
  -- 19 assign
  refine Steps.cons [(17, some 26)] (by kernel_rfl) (fun vals x hx hh K hK => ?_) ?_
  ·obtain ⟨h0, _⟩ := hh
   replace h0 : StoreV (fun _ => True) x (vals 17) shelfL := h0
   generalize e0 : vals 17 = v0 at *
   have HT := Lib.hid h0
   clear h0
   rw [if_pos (by rfl)]
   simp only [puts, Act.put, List.setIfInBounds_toArray, List.set_cons_zero, List.set_cons_succ, e0]
   clear e0
   go_wp2_with fail
   exact hK.out _ _ rfl (Below.refl _ _) HT.out
  -- 20 assign
  refine Steps.cons [(18, some 27)] (by kernel_rfl) (fun vals x hx hh K hK => ?_) ?_
  ·obtain ⟨h0, _⟩ := hh
   replace h0 : vals 18 = .int .i64 0 := h0
   rw [if_pos (by rfl)]
   simp only [puts, Act.put, List.setIfInBounds_toArray, List.set_cons_zero, List.set_cons_succ, h0]
   clear h0
   go_wp2_with fail
   exact hK.out _ _ rfl (Below.refl _ _) rfl
  exact Steps.nil
 ·intro vals x hR2 hh
  obtain ⟨h0, h1, h2, h3, h4, h5, h6, h7, h8, h9, h10, h11, h12, h13, h14, h15, h16, h17, h18, h19, h20, _⟩ := hh
  replace h19 : StoreV (fun _ => True) x (vals 19) shelfL := h19
  replace h20 : vals 20 = .int .i64 0 := h20
  obtain ⟨a, c, e19⟩ := h19.vshape
  simp only [puts, Act.put, List.setIfInBounds_toArray, List.set_cons_zero, List.set_cons_succ, h20, e19]
  rw [e19] at h19
  have HL := Lib.hid h19
  clear h0 h1 h2 h3 h4 h5 h6 h7 h8 h9 h10 h11 h12 h13 h14 h15 h16 h17 h18 h19 h20 e19
  go_wp2_with fail
  have hF := storeFind_any shelfL 4 _ _ x HL.out
  rw [begun_s3] at hF
  refine hF.mono ?_
  rintro e x2 ⟨v2, rfl, hv2, hb2⟩
  obtain ⟨⟨p2, c2⟩, rfl⟩ := hv2.1.shape
  have HL2 := Lib.hid (HL.out.below hb2)
  have hR3 := hRn _ _ hR2 hb2
  clear hv2 hb2 hF hR2 HL
  have hfo : (findO shelfL 4).id = 4 := by decide +kernel
  generalize findO shelfL 4 = fo at *
  go_wp2_with fail
  have HK := Lib.hid (show Keep [cS (fun _ => True) (.slice a shelfL.length c) shelfL, cH x2.heap.size (.cells #[.int .i64 4, .int .i64 fo.kind, .slice p2 fo.links.length c2, .string fo.text] 46 (0, 0))]
   (x2.alloc (.cells #[.int .i64 4, .int .i64 fo.kind, .slice p2 fo.links.length c2, .string fo.text] 46)) from
   ⟨HL2.out.below ((Below.refl _ _).alloc (Nat.le_refl _) _), heap_alloc_new x2 _, trivial⟩)
  have hR4 := hRa _ (.cells #[.int .i64 4, .int .i64 fo.kind, .slice p2 fo.links.length c2, .string fo.text] 46) hR3
  clear hR3 HL2
  generalize x2.heap.size = B2 at *
  generalize x2.alloc _ = y2 at *
  have hF := storeFind_any shelfL 9 _ _ y2 HK.out.1
  rw [begun_s4] at hF
  refine hF.mono ?_
  rintro e x3 ⟨v3, rfl, hv3, hb3⟩
  obtain ⟨⟨p3, c3⟩, rfl⟩ := hv3.1.shape
  have HK3 := Lib.hid (HK.out.below hb3)
  have hR5 := hRn _ _ hR4 hb3
  clear hv3 hb3 hF hR4 HK
  generalize findO shelfL 9 = fo3 at *
  go_wp2_with fail
  have HK4 := Lib.hid (HK3.out.alloc (.cells #[.int .i64 fo3.id, .int .i64 fo3.kind, .slice p3 fo3.links.length c3, .string fo3.text] 46))
  have hR6 := hRa _ (.cells #[.int .i64 fo3.id, .int .i64 fo3.kind, .slice p3 fo3.links.length c3, .string fo3.text] 46) hR5
  clear hR5 HK3
  generalize x3.heap.size = B3 at *
  generalize x3.alloc _ = y3 at *
  refine (shelf_any _).mono ?_
  rintro e x5 ⟨v5, rfl, hv5, hb5⟩
  obtain ⟨a5, c5, rfl⟩ := hv5.vshape
  have HK5 := Lib.hid (Keep.push (c := cS (fun _ => True) (.slice a5 shelfL.length c5) shelfL) (HK4.out.below hb5) (hv5.weaken (S' := fun _ => True) fun _ _ => trivial))
  have hR7 := hRn _ _ hR6 hb5
  clear hv5 hb5 hR6 HK4
  go_wp2_with fail
  have hI := ints_lit (w := x5) (xs := [4]) (t := 3) (by decide) (by decide)
  have hS : StoreV (fun b => b = x5.heap.size + 1 ∨ b = x5.heap.size) ((x5.alloc (.cells #[.int .i64 4] 3)).alloc (.cells #[.int .i64 5, .int .i64 3, .slice (some ⟨x5.heap.size, 0, none⟩) 1 1, .string ⟨#[]⟩] 46)) (.slice (some ⟨x5.heap.size + 1, 0, none⟩) 1 1) [⟨5, 3, [4], ⟨#[]⟩⟩] :=
   store_new (S := fun b => b = x5.heap.size) (x5.alloc (.cells #[.int .i64 4] 3)) [⟨5, 3, [4], ⟨#[]⟩⟩] (fun _ => .slice (some ⟨x5.heap.size, 0, none⟩) 1 1) 46 (x5.heap.size + 1) (by simp) (by decide) (fun i hi => by
    match i, hi with
    | 0, _ => exact ⟨hI, small64 _ (by decide), small64 _ (by decide), by decide⟩)
  have HK6 := Lib.hid ((HK5.out.alloc (.cells #[.int .i64 4] 3)).alloc (.cells #[.int .i64 5, .int .i64 3, .slice (some ⟨x5.heap.size, 0, none⟩) 1 1, .string ⟨#[]⟩] 46))
  have hR8 := hRa _ (.cells #[.int .i64 5, .int .i64 3, .slice (some ⟨x5.heap.size, 0, none⟩) 1 1, .string ⟨#[]⟩] 46) (hRa _ (.cells #[.int .i64 4] 3) hR7)
  have hA := add_any shelfL _ _ _ _ _ _ HK6.out.1 hS
  rw [show addE shelfL [⟨5, 3, [4], ⟨#[]⟩⟩] = 6 from begun_s5] at hA
  refine hA.mono ?_
  rintro e x7 ⟨v7, rfl, hv7, hb7⟩
  obtain ⟨a7, c7, rfl⟩ := hv7.vshape
  have HK7 := Lib.hid (HK6.out.below hb7)
  have hR9 := hRn _ _ hR8 hb7
  clear hv7 hb7 hR7 hR8 HK5 HK6 hA hS hI
  go_wp2_with fail
  refine (shelf_any _).mono ?_
  rintro e x8 ⟨v8, rfl, hv8, hb8⟩
  obtain ⟨a8, c8, rfl⟩ := hv8.vshape
  have HK8 := Lib.hid (HK7.out.below hb8)
  have HC := Lib.hid (storeCheck_any shelfL _ _ x8 hv8)
  rw [begun_s6] at HC
  have hR10 := hRn _ _ hR9 hb8
  clear hv8 hb8 hR9 HK7
  go_wp2_with fail
  refine HC.out.mono ?_
  rintro e x9 ⟨rfl, hb9⟩
  have HK9 := Lib.hid (HK8.out.below hb9)
  have hR11 := hRn _ _ hR10 hb9
  clear hb9 hR10 HK8 HC
  go_wp2_with fail
  refine (shelf_any _).mono ?_
  rintro e x10 ⟨v10, rfl, hv10, hb10⟩
  obtain ⟨a10, c10, rfl⟩ := hv10.vshape
  have HK10 := Lib.hid (HK9.out.below hb10)
  have hSS := sameStore_any shelfL shelfL _ _ _ _ x10 HK10.out.2.1 hv10
  rw [sameStore_refl] at hSS
  have HSS := Lib.hid hSS
  have hR12 := hRn _ _ hR11 hb10
  clear hv10 hb10 hR11 HK9 hSS
  go_wp2_with fail
  refine HSS.out.mono ?_
  rintro e x11 ⟨rfl, hb11⟩
  have hR13 := hRn _ _ hR12 hb11
  have hc := block_cell (j := 0) (HK10.out.below hb11).2.2.1 rfl
  clear hb11 hR12 HK10 HSS
  go_wp2_with fail
  go_ret
  exact ⟨rfl, hRb _ hR13⟩
end Go.Proofs.YtjdgpgfiomnjkaaGreatDoor
