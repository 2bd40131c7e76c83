
/- Memory: refs in a row of the call's own: append, slices.Clone, slices.Insert, slices.Delete. -/
import Derived.Test.YtjdgpgfiomnjkaaGreatDoorM4
import Derived.Test.YtjdgpgfiomnjkaaGreatDoorM6
import Derived.Deep.RegionLaw
import Derived.Lib.SliceRun
import Derived.Lib.Bytealg
import Derived.Deep.DeepCutAuto
import Derived.Shelf.Strings.Builder1
import Derived.Shelf.Strings.Builder2
import Derived.Shelf.Strings.OnBuilder
import Derived.Shelf.Small.Bits
import Derived.Shelf.Small.Strs
import Derived.Shelf.Small.Wraps
import Derived.Shelf.Strconv.Itoa0
import Derived.Shelf.Strconv.Itoa1
import Derived.Shelf.LaysM
import Derived.Shelf.Strconv.Itoa2
import Derived.Shelf.Strconv.Itoa3
import Derived.Shelf.Sort.Plain
import Derived.Shelf.Strings.Prefix
import Derived.Shelf.Slices.Equal
import Derived.Ground.Names2Prog
import Derived.Shelf.Slices.Clone
import Derived.Shelf.Slices.CompactI
import Derived.Shelf.Slices.SearchI
import Derived.Shelf.Slices.Cells
import Derived.Shelf.Slices.In.SortNone
import Derived.Shelf.Slices.Empties2
import Derived.Test.YtjdgpgfiomnjkaaGreatDoorProg
import Derived.Test.YtjdgpgfiomnjkaaGreatDoorM3
import Derived.Deep.RegionHeld3
namespace Go.Proofs.YtjdgpgfiomnjkaaGreatDoor
open Go.RowKit
set_option linter.unusedVariables false
set_option linter.unusedSimpArgs false
def rfCells (r : Rf) : List Value := [.string r.name, .int .i64 r.id]
def RfOk (r : Rf) : Prop := I64 r.id ∧ r.name.size ≤ 140737488351232
def OwnR (B : Nat) (w : World) (v : Value) (l : List Rf) : Prop :=
 w.ownsRow B 62 2 v l.length (flat (fun i => rfCells (rf l i)) l.length) ∧ ∀ r ∈ l, RfOk r
theorem OwnR.nil (B : Nat) (w : World) : OwnR B w (.slice none 0 0) [] := ⟨World.ownsRow_nil _ _ _ _, fun r h => by cases h⟩
theorem OwnR.below {B : Nat} {w w' : World} {v : Value} {l : List Rf} (h : OwnR B w v l) (hb : Below w.heap.size w w') : OwnR B w' v l := ⟨own_below h.1 hb, h.2⟩
theorem OwnR.upd {T : Nat → Prop} {B : Nat} {w w' : World} {v : Value} {l : List Rf} (h : OwnR B w v l) (hu : Upd T w w') (hv : ∀ g, v.ownBlock = some g → ¬ T g) : OwnR B w' v l := ⟨own_upd h.1 hu hv, h.2⟩
theorem OwnR.mono {B B' : Nat} {w : World} {v : Value} {l : List Rf} (h : OwnR B w v l) (hB : B' ≤ B) : OwnR B' w v l := ⟨own_mono h.1 hB, h.2⟩
theorem OwnR.shape {B : Nat} {w : World} {v : Value} {l : List Rf} (h : OwnR B w v l) : ∃ a c, v = .slice a l.length c := own_shape h.1
theorem OwnR.block {B : Nat} {w : World} {v : Value} {l : List Rf} (h : OwnR B w v l) {g : Nat} (hg : v.ownBlock = some g) : B ≤ g ∧ g < w.heap.size := h.1.lt g hg
theorem OwnR.refs {B : Nat} {w : World} {v : Value} {l : List Rf} (h : OwnR B w v l) (hl : l.length * 24 ≤ 140737488351232) : RefsV (fun b => B ≤ b ∧ v.ownBlock = some b) w v l :=
 ⟨own_sl h.1 (fun g hg => ⟨(h.block hg).1, hg⟩) hl (fun i hi j u hu => flat_get (cs := fun i => rfCells (rf l i)) (fun _ _ => rfl) i hi j u hu), h.2⟩
theorem OwnR.any {B : Nat} {w : World} {v : Value} {l : List Rf} (h : OwnR B w v l) (hl : l.length * 24 ≤ 140737488351232) : RefsV (fun _ => True) w v l := (h.refs hl).weaken fun _ _ => trivial
theorem one_rf (r : Rf) : ∀ u ∈ rfCells r, u.oneCell' = true := by
 intro u hu
 simp only [rfCells, List.mem_cons, List.not_mem_nil, or_false] at hu
 rcases hu with rfl | rfl <;> rfl
theorem refs_news {S : Nat → Prop} {w : World} {a : Option Addr} {n cap : Nat} {l : List Rf} (h : RefsV S w (.slice a n cap) l) (hn : 0 < l.length) :
  ∃ ad, a = some ad ∧ ∀ j u, (flat (fun i => rfCells (rf l i)) l.length)[j]? = some u → w.cell? (ad.add j) = some u := by
 obtain ⟨⟨a', cap', hv, h1, h2, h3, h4⟩, _⟩ := h
 cases hv
 obtain ⟨b, off, rfl, hb, hc⟩ := h4 hn
 refine ⟨_, rfl, fun j u hu => ?_⟩
 have hj : j < l.length * 2 := by
  rcases Nat.lt_or_ge j (l.length * 2) with h | h
  ·exact h
  ·rw [List.getElem?_eq_none (by rw [flat_length (sz := 2) fun _ _ => rfl]; exact h)] at hu; cases hu
 have hi' : j / 2 < l.length := by omega
 have hm : j % 2 < (rfCells (rf l (j / 2))).length := by show j % 2 < 2; omega
 have e := flat_get (cs := fun i => rfCells (rf l i)) (sz := 2) (n := l.length) (fun _ _ => rfl) (j / 2) hi' (j % 2) _ (List.getElem?_eq_getElem hm)
 rw [show j / 2 * 2 + j % 2 = j by omega, hu] at e
 have := hc (j / 2) hi' (j % 2) u (by show (rfCells (rf l (j / 2)))[j % 2]? = some u; rw [List.getElem?_eq_getElem hm]; exact e.symm)
 rw [show (⟨b, off, none⟩ : Addr).add j = ⟨b, off + j, none⟩ by unfold Addr.add; split <;> simp_all]
 rw [show off + j = off + j / 2 * 2 + j % 2 by omega]; exact this
theorem one_flat_rf (l : List Rf) : ∀ u ∈ flat (fun i => rfCells (rf l i)) l.length, u.oneCell' = true := one_flat fun _ _ => one_rf _
theorem appendRefs_row {B : Nat} {w : World} {v mv : Value} {l more : List Rf} {S : Nat → Prop} (ty : TypeId) (hG : OwnR B w v l) (h : RefsV S w mv more)
  (hl : (l.length + more.length) * 24 ≤ 140737488351232) (hB : B ≤ w.heap.size) :
  ∃ v' x, (Builtin.append_ #[23, 23] ty #[v, mv]).run Tryz.prog w = .ok v' x ∧ OwnR B x v' (l ++ more) ∧ Upd (fun b => v.ownBlock = some b) w x := by
 obtain ⟨i0, hi, hz0, hz1, hz2⟩ := info_parts Tryz.infoRef
 have hG' := hG
 obtain ⟨hown, hok⟩ := hG
 have h' := h
 obtain ⟨⟨a, cap, rfl, hc1, hc2, hc3, _⟩, hok2⟩ := h
 have hok3 : ∀ r ∈ l ++ more, RfOk r := fun r hr => by
  rcases List.mem_append.1 hr with hr | hr
  ·exact hok r hr
  ·exact hok2 r hr
 by_cases h0 : more.length = 0
 ·obtain rfl : more = [] := List.length_eq_zero_iff.1 h0
  obtain ⟨base, sc, hv, hle⟩ : ∃ base sc, v = .slice base l.length sc ∧ l.length ≤ sc := by
   rcases hown.2 with ⟨rfl, hn⟩ | ⟨g, c, cur, rfl, _, _, hn, _⟩
   ·exact ⟨none, 0, by rw [hn], by omega⟩
   ·exact ⟨_, _, rfl, hn⟩
  subst hv
  refine ⟨_, w, run_append_nothing _ 23 23 ty 62 i0 Tryz.underlying23 hi base l.length sc hle _
   ⟨.inl ⟨_, Tryz.underlying23⟩, fun w' => by simp [Builtin.lenOf], by cases a <;> simp [Builtin.firstCells] <;> rfl, by cases a <;> simp [Builtin.firstCells] <;> rfl, by simp, by simp⟩, ?_, Upd.refl _ _⟩
  rw [List.append_nil]; exact hG'
 ·obtain ⟨ad, rfl, hnews⟩ := refs_news h' (by omega)
  obtain ⟨g, c, x, hr, ho, hg, hor, hlt⟩ := run_append_lies (P := Tryz.prog) w 23 ty B 62 i0 _ 2 24 Tryz.underlying23 hi hz0 hz1 hz2 rfl (by omega) v l.length _ hown ad more.length cap
   (flat (fun i => rfCells (rf more i)) more.length) (flat_length fun _ _ => rfl) hnews (one_flat_rf _) (by omega) (by unfold maxLen; omega) (by omega) hB _ rfl
  refine ⟨_, x, hr, ⟨?_, hok3⟩, Upd.grown (Upd.refl _ _) hg (fun k hk _ => hk)⟩
  rw [List.length_append, flat_add]
  have e1 : flat (fun i => rfCells (rf (l ++ more) i)) l.length = flat (fun i => rfCells (rf l i)) l.length :=
   flat_congr fun i hi => by
    have : rf (l ++ more) i = rf l i := by unfold rf at_; simp only [List.getD_eq_getElem?_getD, List.getElem?_append_left hi]
    rw [this]
  have e2 : flat (fun j => rfCells (rf (l ++ more) (l.length + j))) more.length = flat (fun i => rfCells (rf more i)) more.length :=
   flat_congr fun i hi => by
    have : rf (l ++ more) (l.length + i) = rf more i := by
     unfold rf at_; simp only [List.getD_eq_getElem?_getD]
     rw [List.getElem?_append_right (by omega), show l.length + i - l.length = i by omega]
    rw [this]
  rw [e1, e2]; exact ho
theorem ownR_empty (w : World) : OwnR w.heap.size (w.alloc (.cells #[] 62)) (.slice (some ⟨w.heap.size, 0, none⟩) 0 0) [] :=
 ⟨World.ownsRow_made w #[] 0 (Nat.le_refl _) (Nat.zero_le _) (by simp), fun r h => by cases h⟩
set_option maxHeartbeats 1000000 in
theorem cloneRefs_any (l : List Rf) (v : Value) (S : Nat → Prop) (w : World) (h : RefsV S w v l) :
  Calls Tryz.prog 194 #[v] w fun e w' => ∃ v', e = .returned v' ∧ OwnR w.heap.size w' v' l ∧ Below w.heap.size w w' := by
 have h' := h
 obtain ⟨a, n, cap, HN, rfl, h1, h2, h3, h4, h5⟩ := h.open
 clear h4 h5 h
 have q22 : ∀ (w : World) (a : Option Addr) (n c n' c' : Nat), (binOp .eql 23 (.slice a n c) (.slice none n' c')).run Tryz.prog w = .ok (.bool a.isNone) w := fun w a n c n' c' => Lib.run_eql_slice_nil w _ _ a n c n' c' Tryz.underlying23
 cases a with
 | none =>
  have hl0 : l = [] := by
   obtain ⟨⟨a, cap, e, _, _, _, h4⟩, _⟩ := h'
   cases e
   rcases Nat.eq_zero_or_pos l.length with h | h
   ·exact List.length_eq_zero_iff.1 h
   ·obtain ⟨b, off, e, _⟩ := h4 h; cases e
  subst hl0
  go_enter Tryz.func194, Tryz.ntmps194
  go_wp2_with fail
  go_ret
  exact ⟨_, rfl, OwnR.nil _ _, Below.refl _ _⟩
 | some ad =>
  have hB0 : Below w.heap.size w (w.alloc (.cells #[] 62)) := (Below.refl _ _).alloc (Nat.le_refl _) _
  obtain ⟨v1, x1, hr1, ho1, hu1⟩ := appendRefs_row (l := []) 23 (ownR_empty w) (h'.below hB0) (by have := HN.out; simp; omega) hB0.size
  have hB1 : Below w.heap.size w x1 := hB0.trans (hu1.below (B := w.heap.size) hB0.size (fun b hb => ((ownR_empty w).block hb).1))
  rw [List.nil_append] at ho1
  have HE := Lib.hid (And.intro ho1 hB1)
  obtain ⟨a1, c1, rfl⟩ := ho1.shape
  clear ho1 hB1 hu1 hB0 h'
  go_enter Tryz.func194, Tryz.ntmps194
  go_wp2_with (at_builtin; refine wpList_append_run rfl (.tmp 5) (.tmp 6) 23 rfl _ _ _ rfl rfl hr1 ?_)
  go_ret
  exact ⟨_, rfl, HE.out.1, HE.out.2⟩
theorem insertRefs_any {B i : Nat} {w : World} {v : Value} {l : List Rf} {r : Rf} (hG : OwnR B w v l) (hr : RfOk r) (hl : l.length ≤ 1000) (hB : B ≤ w.heap.size) (hi : i ≤ l.length) {N : Nat} (hN : N = w.heap.size) :
  Calls Tryz.prog 261 #[v, .int .i64 i, .slice (some ⟨N, 0, none⟩) 1 1] (w.alloc (.cells #[.string r.name, .int .i64 r.id] 62))
   fun e w' => ∃ v', e = .returned v' ∧ OwnR B w' v' (insR l i r) ∧ Upd (fun b => v.ownBlock = some b) w w' ∧ (v'.ownBlock = v.ownBlock ∨ ∃ k, v'.ownBlock = some k ∧ w.heap.size ≤ k) := by
 subst hN
 obtain ⟨hown, hok⟩ := hG
 have hv : ∀ g, v.ownBlock = some g → g < w.heap.size := fun g hg => (hown.lt g hg).2
 refine (insertR_row (xs := flat (fun j => rfCells (rf l j)) l.length) (ys := rfCells r) (i := i) (hown.alloc _) (heap_alloc_new w _) (fun e => Nat.lt_irrefl _ (hv _ e)) rfl (one_rf r) (one_flat_rf _) hl (by simp; omega) hi).mono ?_
 rintro e w' ⟨v', rfl, hown', hgrow, hat⟩
 have hu : Upd (fun b => v.ownBlock = some b) w w' := Upd.grown ((Upd.refl _ _).alloc _) hgrow (fun k hk _ => hk)
 refine ⟨v', rfl, ⟨?_, fun x hx => ?_⟩, hu, ?_⟩
 ·have hil : (insR l i r).length = l.length + 1 := by unfold insR; simp; omega
  rw [hil]
  have e1 := put2_flat (f := fun j => rfCells (rf l j)) (g := fun j => rfCells (rf (insR l i r) j)) (n := l.length) (i := i) (ys := rfCells r) (fun _ _ => rfl) hi
   (fun j hj => by
    have : rf (insR l i r) j = rf l j := by
     unfold insR rf at_; simp only [List.getD_eq_getElem?_getD]
     rw [List.append_assoc, List.getElem?_append_left (by rw [List.length_take]; omega), List.getElem?_take, if_pos hj]
    simp only [this])
   (by
    have : rf (insR l i r) i = r := by
     unfold insR rf at_; simp only [List.getD_eq_getElem?_getD]
     rw [List.append_assoc, List.getElem?_append_right (by rw [List.length_take]; omega), List.length_take, show i - min i l.length = 0 by omega]; rfl
    simp only [this])
   (fun j hj hjn => by
    have : rf (insR l i r) (j + 1) = rf l j := by
     unfold insR rf at_; simp only [List.getD_eq_getElem?_getD]
     rw [List.append_assoc, List.getElem?_append_right (by rw [List.length_take]; omega), List.length_take, show j + 1 - min i l.length = (j - i) + 1 by omega]
     show (r :: l.drop i)[_]?.getD _ = _
     rw [List.getElem?_cons_succ, List.getElem?_drop, show i + (j - i) = j by omega]
    simp only [this])
  rw [← e1]; exact hown'
 ·unfold insR at hx
  rcases List.mem_append.1 hx with hx | hx
  ·rcases List.mem_append.1 hx with hx | hx
   ·exact hok x (List.mem_of_mem_take hx)
   ·rw [List.mem_singleton.1 hx]; exact hr
  ·exact hok x (List.mem_of_mem_drop hx)
 ·rcases hat with h | ⟨k, h, hk⟩
  ·exact .inl h
  ·exact .inr ⟨k, h, by simp at hk; omega⟩
theorem setCells_heap (g : Nat) (t : TypeId) : ∀ (vs : List Value) (o : Nat) (cur : Array Value) (w : World), w.heap[g]? = some (.cells cur t (0, 0)) → o + vs.length ≤ cur.size →
  (w.setCells g o vs).heap[g]? = some (.cells (cur.toList.take o ++ vs ++ cur.toList.drop (o + vs.length)).toArray t (0, 0))
 | [], o, cur, w, hg, _ => by
  simp only [World.setCells, List.append_nil, List.length_nil, Nat.add_zero, List.take_append_drop, Array.toArray_toList]; exact hg
 | v :: vs, o, cur, w, hg, hl => by
  simp only [List.length_cons] at hl
  rw [World.setCells, setCells_heap g t vs (o + 1) (cur.setIfInBounds o v) (w.setCell ⟨g, o, none⟩ v) (block_setCell hg v) (by simp; omega)]
  congr 3
  simp only [Array.toList_setIfInBounds, List.length_cons]
  have hol : o < cur.toList.length := by simp; omega
  rw [show o + (vs.length + 1) = o + 1 + vs.length by omega]
  have e1 : (cur.toList.set o v).take (o + 1) = cur.toList.take o ++ [v] := by
   rw [List.set_eq_take_append_cons_drop, if_pos hol]
   rw [List.take_append, List.length_take, List.take_of_length_le (by rw [List.length_take]; omega)]
   rw [show o + 1 - min o cur.toList.length = 1 by omega]
   simp
  have e2 : (cur.toList.set o v).drop (o + 1 + vs.length) = cur.toList.drop (o + 1 + vs.length) := by
   rw [List.drop_set_of_lt (by omega)]
  rw [e1, e2, List.append_assoc (List.take o cur.toList) [v] vs]; rfl
theorem setCells_frame (g : Nat) : ∀ (vs : List Value) (o : Nat) (w : World), Upd (fun b => b = g) w (w.setCells g o vs)
 | [], _, w => Upd.refl _ _
 | v :: vs, o, w => ((Upd.refl (fun b => b = g) w).setCell (p := ⟨g, o, none⟩) (fun _ => rfl) v).trans (setCells_frame g vs (o + 1) _) (fun _ _ h => h)
theorem run_clear_rf (w : World) (ty : TypeId) (g o c : Nat) (h : ∀ j, j < 2 → (w.cell? ⟨g, o + j, none⟩).isSome = true) (hf : ∀ j, j < 2 → w.frozen? ⟨g, o + j, none⟩ = false) :
  (Builtin.clear_ #[23] ty #[.slice (some ⟨g, o, none⟩) 1 c]).run Tryz.prog w = .ok (.tuple #[]) (w.setCells g o [.string ⟨#[]⟩, .int .i64 0]) := by
 have hv : ∀ w, (zeroValue 62).run Tryz.prog w = .ok (.agg #[.string ⟨#[]⟩, .int .i64 0]) w := fun _ => by kernel_rfl
 have hst := run_storeCells_cells (P := Tryz.prog) g o [.string ⟨#[]⟩, .int .i64 0] 0 w (by simpa using h) (by simpa using hf) (by intro v hv'; simp at hv'; rcases hv' with rfl | rfl <;> rfl)
 simp only [Nat.add_zero] at hst
 have hz : (Builtin.zeroCells (Value.agg #[.string ⟨#[]⟩, .int .i64 0]).cells 1).toList = [.string ⟨#[]⟩, .int .i64 0] := by kernel_rfl
 simp [Builtin.clear_, run_underlying Tryz.underlying23, hv, hz, hst]
set_option maxRecDepth 100000 in
set_option maxHeartbeats 4000000 in
theorem deleteRefs_any {B i : Nat} {w : World} {v : Value} {l : List Rf} (hG : OwnR B w v l) (hl : l.length ≤ 1000) (hi : i < l.length) :
  Calls Tryz.prog 237 #[v, .int .i64 i, .int .i64 ((i : Int) + 1)] w
   fun e w' => ∃ v', e = .returned v' ∧ OwnR B w' v' (without l i) ∧ Upd (fun b => v.ownBlock = some b) w w' ∧ v'.ownBlock = v.ownBlock := by
 obtain ⟨i0, hi0, hz0, hz1, hz2⟩ := info_parts Tryz.infoRef
 obtain ⟨⟨hxl, hown⟩, hok⟩ := hG
 rcases hown with ⟨rfl, h0⟩ | ⟨g, cap, cur, rfl, hBg, hg, hnc, hcm, hcs, hxs⟩
 ·omega
 obtain ⟨n, hn⟩ : ∃ n, n = l.length := ⟨_, rfl⟩
 rw [← hn] at hl hi hnc hxs hxl ⊢
 obtain ⟨xs, hx⟩ : ∃ xs, xs = flat (fun i => rfCells (rf l i)) n := ⟨_, rfl⟩
 rw [← hx] at hxs hxl
 have hx1 : ∀ u ∈ xs, u.oneCell' = true := by rw [hx, hn]; exact one_flat_rf l
 obtain ⟨news, hnews⟩ : ∃ news, news = xs.drop ((i + 1) * 2) := ⟨_, rfl⟩
 have hnl : news.length = (n - (i + 1)) * 2 := by rw [hnews, List.length_drop, hxl]; omega
 have hn1 : ∀ u ∈ news, u.oneCell' = true := fun u hu => hx1 u (by rw [hnews] at hu; exact List.mem_of_mem_drop hu)
 have hcl : ∀ j, j < cap * 2 → (w.cell? ⟨g, j, none⟩).isSome = true := fun j hj => by
  rw [World.cell?]; simp [hg, hcs, hj]
 have hfr : ∀ j, w.frozen? ⟨g, j, none⟩ = false := fun j => block_free hg
 have hgx : ∀ j u, xs[j]? = some u → w.cell? ⟨g, j, none⟩ = some u := fun j u hu => by
  refine block_cell hg ?_
  rw [← hxs, List.getElem?_take] at hu
  split at hu
  ·simpa using hu
  ·cases hu
 obtain ⟨A, hA, hsrc⟩ : ∃ A : Addr, (if cap = i + 1 then some (⟨g, 0, none⟩ : Addr) else some ⟨g, (i + 1) * 2, none⟩) = some A ∧ Hid (∀ t u, news[t]? = some u → w.drew.cell? (A.add t) = some u) := by
  by_cases h : cap = i + 1
  ·refine ⟨⟨g, 0, none⟩, by simp [h], fun t u hu => ?_⟩
   have h0 : news.length = 0 := by rw [hnl]; omega
   rw [List.length_eq_zero_iff.1 h0] at hu
   simp at hu
  ·refine ⟨⟨g, (i + 1) * 2, none⟩, by simp [h], fun t u hu => ?_⟩
   rw [hnews, List.getElem?_drop] at hu
   have : (⟨g, (i + 1) * 2, none⟩ : Addr).add t = ⟨g, (i + 1) * 2 + t, none⟩ := by unfold Addr.add; split <;> simp_all
   rw [this]
   exact hgx _ u hu
 obtain ⟨W1, hW1⟩ : ∃ W1, W1 = w.drew.setCells g (i * 2) news := ⟨_, rfl⟩
 have hu1 : Upd (fun b => b = g) w W1 := by rw [hW1]; exact ((Upd.refl _ w).drew).trans (setCells_frame g news _ _) (fun _ _ h => h)
 have hW1g : W1.heap[g]? = some (.cells (cur.toList.take (i * 2) ++ news ++ cur.toList.drop (i * 2 + news.length)).toArray 62 (0, 0)) := by
  rw [hW1]; exact setCells_heap g _ news (i * 2) cur w.drew hg (by rw [hnl, hcs]; omega)
 have hcurl : cur.toList.length = cap * 2 := by simp [hcs]
 obtain ⟨C1, hC1⟩ : ∃ C1 : List Value, C1 = cur.toList.take (i * 2) ++ news ++ cur.toList.drop (i * 2 + news.length) := ⟨_, rfl⟩
 rw [← hC1] at hW1g
 have hC1l : C1.length = cap * 2 := by rw [hC1]; simp only [List.length_append, List.length_take, List.length_drop, hcurl, hnl]; omega
 have hclr : ∀ ty, (Builtin.clear_ #[23] ty #[.slice (some ⟨g, (n - 1) * 2, none⟩) 1 (cap - (n - 1))]).run Tryz.prog W1 = .ok (.tuple #[]) (W1.setCells g ((n - 1) * 2) [.string ⟨#[]⟩, .int .i64 0]) := fun ty =>
  run_clear_rf W1 ty g ((n - 1) * 2) (cap - (n - 1)) (fun j hj => by rw [World.cell?]; simp only [hW1g]; simp [hC1l]; omega) (fun j hj => block_free hW1g)
 have hW2g := setCells_heap g 62 [.string ⟨#[]⟩, .int .i64 0] ((n - 1) * 2) C1.toArray W1 hW1g (by simp [hC1l]; omega)
 have hu2 : Upd (fun b => b = g) w (W1.setCells g ((n - 1) * 2) [.string ⟨#[]⟩, .int .i64 0]) := hu1.trans (setCells_frame g _ _ _) (fun _ _ h => h)
 obtain ⟨W2, hW2⟩ : ∃ W2, W2 = W1.setCells g ((n - 1) * 2) [.string ⟨#[]⟩, .int .i64 0] := ⟨_, rfl⟩
 rw [← hW2] at hW2g hu2 hclr
 have hCend : (List.take ((n - 1) * 2) C1 ++ ([.string ⟨#[]⟩, .int .i64 0] : List Value) ++ List.drop ((n - 1) * 2 + 2) C1).take ((n - 1) * 2) = flat (fun j => rfCells (rf (without l i) j)) (n - 1) := by
  rw [List.append_assoc, List.take_append_of_le_length (by rw [List.length_take]; omega), List.take_take, Nat.min_self]
  have e1 : C1.take ((n - 1) * 2) = xs.take (i * 2) ++ xs.drop ((i + 1) * 2) := by
   rw [hC1]
   have hti : cur.toList.take (i * 2) = xs.take (i * 2) := by rw [← hxs, List.take_take, Nat.min_eq_left (by omega)]
   have hl2 : (cur.toList.take (i * 2) ++ news).length = (n - 1) * 2 := by rw [List.length_append, List.length_take, hcurl, hnl]; omega
   rw [← hl2, List.take_left, hti, hnews]
  rw [e1]
  obtain ⟨k, hk⟩ : ∃ k, n = i + (1 + k) := ⟨n - i - 1, by omega⟩
  have hfl : (flat (fun i => rfCells (rf l i)) i).length = i * 2 := flat_length fun _ _ => rfl
  have hfl2 : (flat (fun j => rfCells (rf l j)) (i + 1)).length = (i + 1) * 2 := flat_length fun _ _ => rfl
  have a1 : xs.take (i * 2) = flat (fun j => rfCells (rf l j)) i := by
   rw [hx, hk, flat_add, ← hfl, List.take_left]
  have a2 : xs.drop ((i + 1) * 2) = flat (fun j => rfCells (rf l (i + 1 + j))) k := by
   rw [hx, show n = (i + 1) + k by omega, flat_add, ← hfl2, List.drop_left]
  rw [a1, a2, show n - 1 = i + k by omega, flat_add]
  congr 1
  ·exact flat_congr fun j hj => by rw [without_rf (by omega), if_pos hj]
  ·exact flat_congr fun j hj => by rw [without_rf (by omega), if_neg (by omega), show i + j + 1 = i + 1 + j by omega]
 have hres : OwnR B W2 (.slice (some ⟨g, 0, none⟩) (n - 1) cap) (without l i) ∧ Upd (fun b => (Value.slice (some ⟨g, 0, none⟩) n cap).ownBlock = some b) w W2 := by
  refine ⟨⟨⟨by rw [without_length (by omega), ← hn]; exact flat_length fun _ _ => rfl, .inr ⟨g, cap, _, by rw [without_length (by omega), ← hn], hBg, hW2g, by rw [without_length (by omega)]; omega, hcm, ?_, ?_⟩⟩, fun r hr => ?_⟩, hu2.weaken (fun b hb e => by subst e; rfl)⟩
  ·simp only [List.size_toArray, List.length_append, List.length_take, List.length_drop, hC1l, List.length_cons, List.length_nil]; omega
  ·rw [without_length (by omega), ← hn]
   have := hCend
   simpa using this
  ·unfold without at hr
   rcases List.mem_append.1 hr with hr | hr
   ·exact hok r (List.mem_of_mem_take hr)
   ·exact hok r (List.mem_of_mem_drop hr)
 have Hres := Lib.hid hres
 have hW : Hid (W1 = w.drew.setCells g (i * 2) news) := hW1
 have HW2 : Hid (W2 = W1.setCells g ((n - 1) * 2) [.string ⟨#[]⟩, .int .i64 0]) := hW2
 have s1 : Hid (news.length = (n - (i + 1)) * 2) := hnl
 have s2 := Lib.hid hn1
 have s3 : Hid (∀ t, t < news.length → (w.drew.cell? ⟨g, 0 + i * 2 + t, none⟩).isSome = true ∧ w.drew.frozen? ⟨g, 0 + i * 2 + t, none⟩ = false) := fun t ht => by
  rw [hnl] at ht
  exact ⟨by rw [Nat.zero_add]; exact hcl _ (by omega), hfr _⟩
 have hm63 : cap ≤ 9223372036854775807 := by unfold maxLen at hcm; omega
 have hne : ¬ ((i : Int) = (i : Int) + 1) := by omega
 have hw1 := wrap_in (n := (i : Int) + 1) (by omega)
 have hi1 : (i : Int) + 1 ≤ (n : Int) := by omega
 have hi2 : (0 : Int) ≤ (i : Int) := by omega
 have hi3 : (i : Int) ≤ (i : Int) + 1 := by omega
 have hi4 : (0 : Int) ≤ (i : Int) + 1 := by omega
 have hi5 : (i : Int) ≤ (cap : Int) := by omega
 have hi6 : (n : Int) ≤ (cap : Int) := by omega
 have htn : ((i : Int) + 1).toNat = i + 1 := by omega
 have hmm : i + (n - (i + 1)) = n - 1 := by omega
 have hm1 : n - (n - 1) = 1 := by omega
 have hm2 : ¬ (cap = n - 1) := by omega
 have hm3 : ((n - 1 : Nat) : Int) ≤ (n : Int) := by omega
 have hm4 : ¬ (cap = i + 1 ∧ False) := by simp
 have hroom : i + (n - (i + 1)) ≤ cap := by omega
 have HN := Lib.hid hn
 clear hn hW1 hW2 hCend hW2g hu2 hu1 hW1g hC1l hC1 hcl hfr hgx hx1 hn1 hnl hnews hx hxs hxl hg hcs hcurl hcm hz0 hz2 hok hres
 go_enter Tryz.func237, Tryz.ntmps237
 go_wp2_with fail
 go_region_law (refine step_append_room rfl (.tmp 22) (.tmp 25) 23 rfl 62 i0 2 Tryz.underlying23 hi0 hz1 g 0 i cap (by simp [Act.eval, Act.put]) A (n - (i + 1)) (cap - (i + 1)) news (by simp [Act.eval, Act.put, hA]) s1.out hsrc.out s2.out hroom s3.out ?_; rw [Nat.zero_add, ← hW.out])
 go_wp2
 go_ret
 exact ⟨_, rfl, Hres.out.1, Hres.out.2, rfl⟩
end Go.Proofs.YtjdgpgfiomnjkaaGreatDoor
namespace Go.Proofs.YtjdgpgfiomnjkaaGreatDoor
open Go.RowKit
set_option linter.unusedVariables false
set_option linter.unusedSimpArgs false
theorem compare_lt : ∀ (a b : List UInt8), Lib.compareBytes a b < 0 ↔ Op.bytesLess a b = true
 | [], [] => by simp [Lib.compareBytes, Op.bytesLess]
 | [], _ :: _ => by simp [Lib.compareBytes, Op.bytesLess]
 | _ :: _, [] => by simp [Lib.compareBytes, Op.bytesLess]
 | a :: xs, b :: ys => by
  have ih := compare_lt xs ys
  simp only [Lib.compareBytes, Op.bytesLess, Bool.or_eq_true, decide_eq_true_eq, Bool.and_eq_true, beq_iff_eq]
  by_cases h1 : a < b
  ·simp [h1]
  ·by_cases h2 : b < a
   ·have h3 : ¬ a = b := by rintro rfl; exact h1 h2
    simp [h1, h2, h3]
   ·have h3 : a = b := by
     apply UInt8.toNat_inj.1
     simp only [UInt8.lt_iff_toNat_lt] at *; omega
    simp [h3, ih]
def cmpS (a b : ByteArray) : Int := Lib.compareBytes a.data.toList b.data.toList
theorem cmpS_lt (a b : ByteArray) : cmpS a b < 0 ↔ strLt a b = true := by
 unfold cmpS strLt; rw [compare_lt, ByteArray.toList_eq, ByteArray.toList_eq]
theorem strLt_ntrans {a b c : ByteArray} (h1 : strLt a b = false) (h2 : strLt b c = false) : strLt a c = false := by
 cases h : strLt a c
 ·rfl
 ·by_cases e : a = b
  ·subst e; rw [h] at h2; cases h2
  ·have h3 : strLt b a = true := by
    cases e3 : strLt b a
    ·exact absurd (strLt_tri h1 e3) e
    ·rfl
   have h4 := less_trans _ _ _ h3 h
   unfold strLt at h2
   rw [h2] at h4; cases h4
end Go.Proofs.YtjdgpgfiomnjkaaGreatDoor
namespace Go.Proofs.YtjdgpgfiomnjkaaGreatDoor
open Go.RowKit
set_option linter.unusedVariables false
set_option linter.unusedSimpArgs false
theorem updId_any (n : Int) (w : World) : Calls Tryz.prog 172 #[.int .i64 n] w fun e w' => e = .returned (.bool (within n 0 99)) ∧ w = w' := by
 go_enter Tryz.func172, Tryz.ntmps172
 go_wp2
 all_goals go_ret
 all_goals (refine ⟨?_, rfl⟩; simp [within, *])
 omega
def idxPU (p : Mv → Bool) (l : List Mv) : Int := match l.findIdx? p with | some i => (i : Int) | none => -1
theorem idxPU_hit {l : List Mv} {p : Mv → Bool} {k : Nat} (h : ∀ j, j < k → p (mv l j) = false) (hk : k < l.length) (he : p (mv l k) = true) : idxPU p l = k := by
 unfold idxPU
 have : l.findIdx? p = some k := by
  rw [List.findIdx?_eq_some_iff_getElem]
  refine ⟨hk, by rw [← mv_lt hk]; exact he, fun j hj => ?_⟩
  have := h j hj
  rw [mv_lt (by omega)] at this
  simp [this]
 rw [this]
theorem idxPU_none {l : List Mv} {p : Mv → Bool} (h : ∀ j, j < l.length → p (mv l j) = false) : idxPU p l = -1 := by
 unfold idxPU
 have : l.findIdx? p = none := by
  rw [List.findIdx?_eq_none_iff]
  intro x hx
  obtain ⟨i, hi, rfl⟩ := List.getElem_of_mem hx
  have := h i hi
  rwa [mv_lt hi] at this
 rw [this]
theorem idxPU_cases (p : Mv → Bool) (l : List Mv) : (idxPU p l = -1 ∧ ∀ j, j < l.length → p (mv l j) = false) ∨ ∃ k, k < l.length ∧ idxPU p l = (k : Int) ∧ p (mv l k) = true := by
 unfold idxPU
 cases h : l.findIdx? p with
 | none =>
  rw [List.findIdx?_eq_none_iff] at h
  exact .inl ⟨rfl, fun j hj => by rw [mv_lt hj]; exact h _ (List.getElem_mem hj)⟩
 | some k =>
  rw [List.findIdx?_eq_some_iff_getElem] at h
  obtain ⟨hk, he, _⟩ := h
  exact .inr ⟨k, hk, rfl, by rw [mv_lt hk]; exact he⟩
def AsksU (g : Nat) (c : Value) (p : Mv → Bool) (w : World) (l : List Mv) : Prop :=
 ∀ (x : World) (i : Nat), i < l.length → Below w.heap.size w x → Calls Tryz.prog g #[.agg #[.string (mv l i).name, .int .i64 (mv l i).old, .int .i64 (mv l i).new], c] x fun e w' => e = .returned (.bool (p (mv l i))) ∧ Below x.heap.size x w'
set_option maxHeartbeats 1000000 in
theorem indexFuncU_any (l : List Mv) (v c : Value) (S : Nat → Prop) (g : Nat) (p : Mv → Bool) (w : World) (h : MvsV S w v l) (eg : ∀ args w, (callFunc g args).run Tryz.prog w = .ok (.enter g args) w) (hp : AsksU g c p w l) :
  Calls Tryz.prog 224 #[v, .func (.func g) #[] #[c]] w fun e w' => e = .returned (.int .i64 (idxPU p l)) ∧ Below w.heap.size w w' := by
 obtain ⟨a, n, cap, HN, rfl, h1, h2, h3, h4⟩ := h.open
 clear h
 obtain ⟨R, hR, hR1, _⟩ := cls_plain w
 have hRb := hR.below
 have hRn := hR.next
 have Hp := Lib.hid (fun x k (hk : k < n) hx => hp x k (by rw [← HN.out]; exact hk) hx); clear hp
 have Hh := Lib.hid (fun k h1 hk he => idxPU_hit (l := l) (p := p) (k := k) h1 (by rw [← HN.out]; exact hk) he)
 have Hn := Lib.hid (fun h1 => idxPU_none (l := l) (p := p) (by rw [← HN.out]; exact h1))
 go_enter Tryz.func224, Tryz.ntmps224
 go_wp2_with fail
 go_loopw [8] (fun i wr => ∃ k : Nat, k ≤ n ∧ i = .int .i64 k ∧ Hid (∀ j, j < k → p (mv l j) = false) ∧ In R wr) (fun i _ => n - (intOf i).toNat)
 case atStart => exact ⟨0, by omega, rfl, fun j hj => absurd hj (by omega), hR1⟩
 case round =>
  obtain ⟨k, hk, rfl, Hs, hRw⟩ := hrel
  clear hR1
  by_cases hlt : k < n
  ·obtain ⟨b, off, rfl, hb, k0, k1, k2⟩ := h4 (by omega)
   have x0 := k0 k wr hlt (hRb _ hRw)
   have x1 := k1 k wr hlt (hRb _ hRw)
   have x2 := k2 k wr hlt (hRb _ hRw)
   clear h4 k0 k1 k2
   cases hq : p (mv l k)
   ·have He := Lib.hid hq
    go_wp2_with fail
    refine (Hp.out _ k hlt (hRb _ hRw)).mono ?_
    rintro e w' ⟨rfl, hb2⟩
    rw [hq]
    have hR2 := hRn _ _ hRw hb2
    go_wp2_with fail
    go_roundw
    case rel => exact ⟨k + 1, by omega, by go_num, all_next Hs.out He.out, hR2⟩
    case measure => simp [intOf]; omega
   ·have HK := Lib.hid (Hh.out k Hs.out hlt hq)
    go_wp2_with fail
    refine (Hp.out _ k hlt (hRb _ hRw)).mono ?_
    rintro e w' ⟨rfl, hb2⟩
    rw [hq]
    have hR2 := hRn _ _ hRw hb2
    go_wp2_with fail
    go_ret
    exact ⟨ret_int HK.out.symm, hRb _ hR2⟩
  ·obtain rfl : k = n := by omega
   have HK := Lib.hid (Hn.out Hs.out)
   go_wp2_with fail
   go_ret
   exact ⟨ret_int HK.out.symm, hRb _ hRw⟩
set_option maxHeartbeats 400000 in
theorem containsFuncU_any (l : List Mv) (v c : Value) (S : Nat → Prop) (g : Nat) (p : Mv → Bool) (w : World) (h : MvsV S w v l) (eg : ∀ args w, (callFunc g args).run Tryz.prog w = .ok (.enter g args) w) (hp : AsksU g c p w l) :
  Calls Tryz.prog 173 #[v, .func (.func g) #[] #[c]] w fun e w' => e = .returned (.bool (l.any p)) ∧ Below w.heap.size w w' := by
 obtain ⟨q, rfl⟩ := h.shape
 have Hi := Lib.hid (indexFuncU_any l _ c S g p w h eg hp)
 rcases idxPU_cases p l with ⟨h0, h1⟩ | ⟨k, hk, h0, h1⟩
 ·have Ha := Lib.hid (show l.any p = false by
   rw [List.any_eq_false]
   intro x hx
   obtain ⟨i, hi, rfl⟩ := List.getElem_of_mem hx
   have := h1 i hi
   rw [mv_lt hi] at this
   simp [this])
  clear h1 hp
  go_enter Tryz.func173, Tryz.ntmps173
  go_wp2_with fail
  refine Hi.out.mono ?_
  rintro e w' ⟨rfl, hb⟩
  rw [h0]
  go_wp2_with fail
  go_ret
  exact ⟨by rw [Ha.out]; rfl, hb⟩
 ·have Ha := Lib.hid (show l.any p = true by
   rw [List.any_eq_true]
   exact ⟨mv l k, by rw [mv_lt hk]; exact List.getElem_mem hk, h1⟩)
  have hd : decide ((0 : Int) ≤ (k : Int)) = true := by simp
  clear h1 hp
  go_enter Tryz.func173, Tryz.ntmps173
  go_wp2_with fail
  refine Hi.out.mono ?_
  rintro e w' ⟨rfl, hb⟩
  rw [h0]
  go_wp2_with fail
  go_ret
  exact ⟨by rw [Ha.out]; first | rfl | simp, hb⟩
set_option maxHeartbeats 400000 in
theorem updCheck1_any (x u : Mv) (a : Addr) (w : World) (ha : a.spot = none) (hc : w.cell? a = some (.string u.name)) :
  Calls Tryz.prog 174 #[.agg #[.string x.name, .int .i64 x.old, .int .i64 x.new], .pointer (some a)] w fun e w' => e = .returned (.bool (x.name.toList == u.name.toList)) ∧ Below w.heap.size w w' := by
 obtain ⟨b, off, sp⟩ := a
 simp only at ha
 subst ha
 obtain ⟨R, hR, hR1, hx⟩ := cls_box w #[.string x.name, .int .i64 x.old, .int .i64 x.new] 107
 have hx0 := hx 0 _ rfl _ hR1
 have hc2 := below_cell (hR.below _ hR1) hc
 have hbw := hR.below _ hR1
 clear hx hR1 hR hc
 generalize hq : (x.name.toList == u.name.toList) = q
 go_enter Tryz.func174, Tryz.ntmps174
 go_wp2_with fail
 go_ret
 exact ⟨rfl, hbw⟩
theorem MvsV.take {S : Nat → Prop} {w : World} {a : Option Addr} {n cap : Nat} {l : List Mv} (h : MvsV S w (.slice a n cap) l) {i : Nat} (hi : i ≤ l.length) : MvsV S w (.slice a i cap) (l.take i) := by
 obtain ⟨⟨a', cap', hv, h1, h2, h3, h4⟩, h5⟩ := h
 cases hv
 have hl : (l.take i).length = i := by rw [List.length_take]; omega
 have hmv : ∀ j, j < i → mv (l.take i) j = mv l j := fun j hj => by
  unfold mv at_; simp only [List.getD_eq_getElem?_getD, List.getElem?_take, if_pos hj]
 refine ⟨⟨a, cap, by rw [hl], by omega, h2, by omega, fun hn => ?_⟩, fun u hu => h5 u (List.mem_of_mem_take hu)⟩
 obtain ⟨b, off, ha, hS, hc⟩ := h4 (by omega)
 exact ⟨b, off, ha, hS, fun j hj q u hu => by simp only [hmv j (by omega)] at hu; exact hc j (by omega) q u hu⟩
theorem dup_take {l : List Mv} {i : Nat} (hi : i ≤ l.length) : ((l.take i).any fun x => x.name.toList == (mv l i).name.toList) = dupB l i := by
 unfold dupB
 rw [Bool.eq_iff_iff, List.any_eq_true, List.any_eq_true]
 constructor
 ·rintro ⟨x, hx, e⟩
  obtain ⟨j, hj, rfl⟩ := List.getElem_of_mem hx
  have hj' : j < i := by simp at hj; omega
  exact ⟨j, List.mem_range.2 hj', by rw [mv_lt (show j < l.length by omega)]; simpa using e⟩
 ·rintro ⟨k, hk, e⟩
  have hk' := List.mem_range.1 hk
  exact ⟨mv l k, by rw [mv_lt (show k < l.length by omega)]; exact List.mem_take_iff_getElem.2 ⟨k, by omega, rfl⟩, e⟩
set_option maxRecDepth 100000 in
set_option maxHeartbeats 4000000 in
theorem updCheck_any (l : List Mv) (v : Value) (S : Nat → Prop) (w : World) (h : MvsV S w v l) :
  Calls Tryz.prog 120 #[v] w fun e w' => e = .returned (.int .i64 (checkMvs l)) ∧ Below w.heap.size w w' := by
 have h' := h
 obtain ⟨a, n, cap, HN, rfl, h1, h2, h3, h4⟩ := h.open
 have H5 := Lib.hid (fun i (hi : i < n) => (h.each (i := i) (by rw [← HN.out]; exact hi)))
 clear h
 obtain ⟨R, hR, hR1, _⟩ := cls_plain w
 have hRb := hR.below
 have hRn := hR.next
 by_cases h0 : n = 0
 ·have He := Lib.hid (checkMvs_none (l := l) (by rw [← HN.out]; exact h0))
  have hq : ((n : Int) == 0) = true := by simpa using h0
  subst h0
  go_enter Tryz.func120, Tryz.ntmps120
  go_wp2_with fail
  go_ret
  exact ⟨ret_int He.out.symm, hRb _ hR1⟩
 by_cases h8 : 4 < n
 ·have He := Lib.hid (checkMvs_many (l := l) (by rw [← HN.out]; exact h8))
  have hq : ((n : Int) == 0) = false := by simpa using h0
  clear h0
  go_enter Tryz.func120, Tryz.ntmps120
  go_wp2_with fail
  go_ret
  exact ⟨ret_int He.out.symm, hRb _ hR1⟩
 ·have Hbad := Lib.hid (fun i e (hs : scan (mvErr l) i = 0) (hi : i < n) (he : mvErr l i = e) (hne : e ≠ 0) => checkMvs_bad (by rw [← HN.out]; omega) (by rw [← HN.out]; omega) hs (by rw [← HN.out]; exact hi) he hne)
  have Hok := Lib.hid (fun (hs : scan (mvErr l) n = 0) => checkMvs_ok (l := l) (by rw [← HN.out]; omega) (by rw [← HN.out]; omega) (by rw [← HN.out]; exact hs))
  have hq : ((n : Int) == 0) = false := by simpa using h0
  clear h0
  go_enter Tryz.func120, Tryz.ntmps120
  go_wp2_with fail
  go_loopw [17] (fun i wr => ∃ k : Nat, k ≤ n ∧ i = .int .i64 k ∧ Hid (scan (mvErr l) k = 0) ∧ In R wr) (fun i _ => n - (intOf i).toNat)
  case atStart => exact ⟨0, by omega, rfl, rfl, hR1⟩
  case round =>
   obtain ⟨k, hk, rfl, Hs, hRw⟩ := hrel
   clear hR1
   by_cases hlt : k < n
   ·obtain ⟨b, off, rfl, hb, k0, k1, k2⟩ := h4 (by omega)
    have x0 := k0 k wr hlt (hRb _ hRw)
    have x1 := k1 k wr hlt (hRb _ hRw)
    have x2 := k2 k wr hlt (hRb _ hRw)
    have Hnm := H5.out k hlt
    have Hre := Lib.hid (show mvErr l k = if nameErr (mv l k).name ≠ 0 then nameErr (mv l k).name else if within (mv l k).old 0 99 = false ∨ within (mv l k).new 0 99 = false then 3 else if (mv l k).old = 0 ∧ (mv l k).new = 0 then 1 else if dupB l k = true then 6 else 0 from rfl)
    clear h4 k0 k1 k2
    obtain ⟨Q, hQ, hQ1, hy⟩ := cls_box wr #[.string (mv l k).name, .int .i64 (mv l k).old, .int .i64 (mv l k).new] 107
    have y0 := hy 0 _ rfl _ hQ1
    have y1 := hy 1 _ rfl _ hQ1
    have y2 := hy 2 _ rfl _ hQ1
    have Hy := Lib.hid (hy 0 _ rfl)
    clear hy
    have hQb : ∀ x, In Q x → Below w.heap.size w x := fun x hx => below_next (hRb _ hRw) (hQ.below x hx)
    have hQn := hQ.next
    have Hap := Lib.hid (show AsksU 174 (.pointer (some ⟨wr.heap.size, 0, none⟩)) (fun x => x.name.toList == (mv l k).name.toList) (wr.alloc (.cells #[.string (mv l k).name, .int .i64 (mv l k).old, .int .i64 (mv l k).new] 107)) (l.take k) from
     fun x i hi hx => updCheck1_any _ (mv l k) ⟨wr.heap.size, 0, none⟩ x rfl (Hy.out x (hQn _ _ hQ1 hx)))
    have Hdt := Lib.hid (dup_take (l := l) (i := k) (by have := HN.out; omega))
    have Hcf := Lib.hid (containsFuncU_any (l.take k) _ _ S _ _ _ ((h'.take (i := k) (by have := HN.out; omega)).below (hQb _ hQ1)) (fun _ _ => rfl) Hap.out)
    rw [Hdt.out] at Hcf
    have hi1 : (0 : Int) ≤ (k : Int) := by omega
    have hi2 : (k : Int) < (n : Int) := by omega
    have hi3 : (k : Int) ≤ (cap : Int) := by omega
    have Hna := Lib.hid (fun x => name_any (mv l k).name x Hnm.2.2)
    clear Hnm Hap Hy
    by_cases hz : nameErr (mv l k).name = 0
    ·rw [hz] at Hna
     rw [if_neg (by simp [hz])] at Hre
     clear hz
     cases q1 : within (mv l k).old 0 99
     ·have HE := Lib.hid (Hbad.out k 3 Hs.out hlt (by rw [Hre.out, if_pos (.inl q1)]) (by decide))
      go_wp2_with (first | (go_at_call 171; refine (Hna.out _).mono ?_; rintro e w' ⟨rfl, rfl⟩) | (go_at_call 172; refine (updId_any _ _).mono ?_; rintro e w' ⟨rfl, rfl⟩))
      go_ret
      exact ⟨ret_int HE.out.symm, hQb _ hQ1⟩
     ·cases q2 : within (mv l k).new 0 99
      ·have HE := Lib.hid (Hbad.out k 3 Hs.out hlt (by rw [Hre.out, if_pos (.inr q2)]) (by decide))
       go_wp2_with (first | (go_at_call 171; refine (Hna.out _).mono ?_; rintro e w' ⟨rfl, rfl⟩) | (go_at_call 172; refine (updId_any _ _).mono ?_; rintro e w' ⟨rfl, rfl⟩))
       go_ret
       exact ⟨ret_int HE.out.symm, hQb _ hQ1⟩
      ·have hno : ¬ (within (mv l k).old 0 99 = false ∨ within (mv l k).new 0 99 = false) := by simp [q1, q2]
       rw [if_neg hno] at Hre
       clear hno
       by_cases hm : (mv l k).old = 0 ∧ (mv l k).new = 0
       ·have HE := Lib.hid (Hbad.out k 1 Hs.out hlt (by rw [Hre.out, if_pos hm]) (by decide))
        have q3 : ((mv l k).old == 0) = true := by simpa using hm.1
        have q4 : ((mv l k).new == 0) = true := by simpa using hm.2
        clear hm
        go_wp2_with (first | (go_at_call 171; refine (Hna.out _).mono ?_; rintro e w' ⟨rfl, rfl⟩) | (go_at_call 172; refine (updId_any _ _).mono ?_; rintro e w' ⟨rfl, rfl⟩))
        go_ret
        exact ⟨ret_int HE.out.symm, hQb _ hQ1⟩
       ·rw [if_neg hm] at Hre
        have hm3 : ((mv l k).old == 0) = false ∨ (((mv l k).old == 0) = true ∧ ((mv l k).new == 0) = false) := by
         by_cases h : (mv l k).old = 0
         ·exact .inr ⟨by simpa using h, by simpa using fun h2 => hm ⟨h, h2⟩⟩
         ·exact .inl (by simpa using h)
        clear hm
        cases hd : dupB l k
        ·rw [hd] at Hcf
         have HN2 := Lib.hid (scan_next Hs.out (show mvErr l k = 0 by rw [Hre.out, hd]; simp))
         rcases hm3 with q3 | ⟨q3, q4⟩
         all_goals
          go_wp2_with (first | (go_at_call 171; refine (Hna.out _).mono ?_; rintro e w' ⟨rfl, rfl⟩) | (go_at_call 172; refine (updId_any _ _).mono ?_; rintro e w' ⟨rfl, rfl⟩))
          refine Hcf.out.mono ?_
          rintro e w4 ⟨rfl, hb4⟩
          have hQ4 := hQn _ _ hQ1 hb4
          clear hb4
          go_wp2_with fail
          go_roundw
          case rel => exact ⟨k + 1, by omega, by go_num, HN2.out, hRn _ _ hRw (hQ.below _ hQ4)⟩
          case measure => simp [intOf]; omega
        ·rw [hd] at Hcf
         have HE := Lib.hid (Hbad.out k 6 Hs.out hlt (by rw [Hre.out, if_pos hd]) (by decide))
         rcases hm3 with q3 | ⟨q3, q4⟩
         all_goals
          go_wp2_with (first | (go_at_call 171; refine (Hna.out _).mono ?_; rintro e w' ⟨rfl, rfl⟩) | (go_at_call 172; refine (updId_any _ _).mono ?_; rintro e w' ⟨rfl, rfl⟩))
          refine Hcf.out.mono ?_
          rintro e w4 ⟨rfl, hb4⟩
          have hQ4 := hQn _ _ hQ1 hb4
          clear hb4
          go_wp2_with fail
          go_ret
          exact ⟨ret_int HE.out.symm, hQb _ hQ4⟩
    ·have HE := Lib.hid (Hbad.out k _ Hs.out hlt (by rw [Hre.out, if_pos hz]) hz)
     have hz' : (nameErr (mv l k).name != 0) = true := by simpa using hz
     clear hz
     go_wp2_with (go_at_call 171; refine (Hna.out _).mono ?_; rintro e w' ⟨rfl, rfl⟩)
     go_ret
     exact ⟨ret_int HE.out.symm, hQb _ hQ1⟩
   ·obtain rfl : k = n := by omega
    have HE := Lib.hid (Hok.out Hs.out)
    go_wp2_with fail
    go_ret
    exact ⟨ret_int HE.out.symm, hRb _ hRw⟩
end Go.Proofs.YtjdgpgfiomnjkaaGreatDoor
namespace Go.Proofs
open Go.Sort Go.RowKit
open Go.RowKit Go.Sort Go.Lib
open Go.RowKit Go.Sort
open Go.RowKit Go.Lib Go.Sort
open Go.RowKit Go.Lib
open Go.RowKit
open Go.Lib
open Go.Shelf
def Tryz.lays156_ren : Go.Shelf.Ren := ⟨fun | 156 => 215 | 165 => 247 | 166 => 248 | 169 => 249 | 240 => 264 | 241 => 265 | 276 => 274 | 277 => 275 | n => n, fun | 31 => 113 | 9 => 9 | 3 => 3 | 4 => 4 | 0 => 0 | 20 => 20 | 72 => 263 | 76 => 267 | 70 => 261 | 37 => 138 | 75 => 266 | 127 => 281 | 164 => 288 | 5 => 5 | 80 => 269 | n => n, fun | n => n⟩
theorem Tryz.lays156 : Go.Proofs.Lays.n156 Tryz.prog Tryz.lays156_ren := {
 mixed := by kernel_rfl
 f156 := Tryz.func215.trans (congrArg some (by kernel_rfl))
 f165 := Tryz.func247.trans (congrArg some (by kernel_rfl))
 f166 := Tryz.func248.trans (congrArg some (by kernel_rfl))
 f169 := Tryz.func249.trans (congrArg some (by kernel_rfl))
 f240 := Tryz.func264.trans (congrArg some (by kernel_rfl))
 f241 := Tryz.func265.trans (congrArg some (by kernel_rfl))
 f276 := Tryz.func274.trans (congrArg some (by kernel_rfl))
 f277 := Tryz.func275.trans (congrArg some (by kernel_rfl))
 t0 := Tryz.underlying0
 a0 := Tryz.isAgg0
 z0 := Tryz.sizeOf0
 v0 := Tryz.zeroValue0
 t3 := Tryz.underlying3
 a3 := Tryz.isAgg3
 z3 := Tryz.sizeOf3
 v3 := Tryz.zeroValue3
 t4 := Tryz.underlying4
 a4 := Tryz.isAgg4
 z4 := Tryz.sizeOf4
 v4 := Tryz.zeroValue4
 t9 := Tryz.underlying9
 a9 := Tryz.isAgg9
 z9 := Tryz.sizeOf9
 v9 := Tryz.zeroValue9
 t20 := Tryz.underlying20
 a20 := Tryz.isAgg20
 z20 := Tryz.sizeOf20
 v20 := Tryz.zeroValue20
 t31 := Tryz.underlying113
 a31 := Tryz.isAgg113
 z31 := Tryz.sizeOf113
 v31 := Tryz.zeroValue113
 t37 := Tryz.underlying138
 a37 := Tryz.isAgg138
 z37 := Tryz.sizeOf138
 v37 := Tryz.zeroValue138
 t70 := Tryz.underlying261
 a70 := Tryz.isAgg261
 z70 := Tryz.sizeOf261
 v70 := Tryz.zeroValue261
 t72 := Tryz.underlying263
 a72 := Tryz.isAgg263
 z72 := Tryz.sizeOf263
 v72 := Tryz.zeroValue263
 t75 := Tryz.underlying266
 a75 := Tryz.isAgg266
 z75 := Tryz.sizeOf266
 v75 := Tryz.zeroValue266
 t76 := Tryz.underlying267
 a76 := Tryz.isAgg267
 z76 := Tryz.sizeOf267
 v76 := Tryz.zeroValue267
 t127 := Tryz.underlying281
 a127 := Tryz.isAgg281
 z127 := Tryz.sizeOf281
 v127 := Tryz.zeroValue281
 t164 := Tryz.underlying288
 a164 := Tryz.isAgg288
 z164 := Tryz.sizeOf288
 v164 := Tryz.zeroValue288 }
theorem Tryz.Builder_Extra_156 : Builder.Extra Tryz.prog Tryz.lays156_ren := {
 sizeBuilder := by kernel_rfl
 liesBuilder := by kernel_rfl
 t5 := Tryz.underlying5
 a5 := Tryz.isAgg5
 z5 := Tryz.sizeOf5
 v5 := Tryz.zeroValue5
 infoByte := by kernel_rfl
 cellsByte := by kernel_rfl
 sizeByte := by kernel_rfl
 neB5 := by decide }
theorem Tryz.strings_Join (bk o c : Nat) (xs : List ByteArray) (sep : ByteArray) (w : World) (hcells : ∀ (j : Nat) x, xs[j]? = some x → w.cell? ⟨bk, o + j, none⟩ = some (.string x)) (hbk : bk < w.heap.size) (hN : xs.length ≤ 140737488355328) (hcap : xs.length ≤ c) (hlen : (Lib.join (xs.map (·.data.toList)) sep.data.toList).length ≤ 140737488355328) :
  Calls Tryz.prog 215 #[.slice (some ⟨bk, o, none⟩) xs.length c, .string sep] w fun e w' => e = .returned (.string ⟨(Lib.join (xs.map (·.data.toList)) sep.data.toList).toArray⟩) ∧ Below w.heap.size w w' := Any.strings_Join Tryz.lays156 Tryz.Builder_Extra_156 bk o c xs sep w hcells hbk hN hcap hlen
def Tryz.lays106_ren : Go.Shelf.Ren := ⟨fun | 106 => 128 | 213 => 183 | 265 => 234 | n => n, fun | 9 => 9 | 3 => 3 | n => n, fun | n => n⟩
theorem Tryz.lays106 : Go.Proofs.Lays.n106 Tryz.prog Tryz.lays106_ren := {
 mixed := by kernel_rfl
 f106 := Tryz.func128.trans (congrArg some (by kernel_rfl))
 f213 := Tryz.func183.trans (congrArg some (by kernel_rfl))
 f265 := Tryz.func234.trans (congrArg some (by kernel_rfl))
 t3 := Tryz.underlying3
 a3 := Tryz.isAgg3
 z3 := Tryz.sizeOf3
 v3 := Tryz.zeroValue3
 t9 := Tryz.underlying9
 a9 := Tryz.isAgg9
 z9 := Tryz.sizeOf9
 v9 := Tryz.zeroValue9 }
theorem Tryz.strings_Compare (a b : ByteArray) (w : World) :
  Calls Tryz.prog 128 #[.string a, .string b] w fun e w' => e = .returned (.int .i64 (Lib.compareBytes a.data.toList b.data.toList)) ∧ w' = w := Any.strings_Compare Tryz.lays106 a b w
def Tryz.laysM171_ren : Go.Shelf.Ren := ⟨fun | 171 => 101 | 243 => 166 | 246 => 221 | 283 => 252 | 284 => 253 | 285 => 254 | 286 => 255 | 129 => 210 | 317 => 266 | 318 => 267 | 319 => 268 | 320 => 269 | 337 => 276 | 338 => 277 | n => n, fun | 3 => 3 | 9 => 9 | 2 => 2 | 4 => 4 | 171 => 270 | 0 => 0 | 53 => 231 | 37 => 138 | 5 => 5 | 173 => 272 | 212 => 284 | 51 => 229 | 20 => 20 | 213 => 285 | 46 => 187 | 232 => 291 | 233 => 292 | n => n, fun | 17 => 1 | 18 => 2 | 19 => 3 | n => n⟩
theorem Tryz.laysM171 : Go.Proofs.LaysM.n171 Tryz.prog Tryz.laysM171_ren := {
 mixed := by kernel_rfl
 f129 := Tryz.func210.trans (congrArg some (by kernel_rfl))
 f171 := Tryz.func101.trans (congrArg some (by kernel_rfl))
 f243 := Tryz.func166.trans (congrArg some (by kernel_rfl))
 f246 := Tryz.func221.trans (congrArg some (by kernel_rfl))
 f283 := Tryz.func252.trans (congrArg some (by kernel_rfl))
 f284 := Tryz.func253.trans (congrArg some (by kernel_rfl))
 f285 := Tryz.func254.trans (congrArg some (by kernel_rfl))
 f286 := Tryz.func255.trans (congrArg some (by kernel_rfl))
 f317 := Tryz.func266.trans (congrArg some (by kernel_rfl))
 f318 := Tryz.func267.trans (congrArg some (by kernel_rfl))
 f319 := Tryz.func268.trans (congrArg some (by kernel_rfl))
 f320 := Tryz.func269.trans (congrArg some (by kernel_rfl))
 f337 := Tryz.func276.trans (congrArg some (by kernel_rfl))
 f338 := Tryz.func277.trans (congrArg some (by kernel_rfl))
 t0 := Tryz.underlying0
 a0 := Tryz.isAgg0
 z0 := Tryz.sizeOf0
 v0 := Tryz.zeroValue0
 t2 := Tryz.underlying2
 a2 := Tryz.isAgg2
 z2 := Tryz.sizeOf2
 v2 := Tryz.zeroValue2
 t3 := Tryz.underlying3
 a3 := Tryz.isAgg3
 z3 := Tryz.sizeOf3
 v3 := Tryz.zeroValue3
 t4 := Tryz.underlying4
 a4 := Tryz.isAgg4
 z4 := Tryz.sizeOf4
 v4 := Tryz.zeroValue4
 t5 := Tryz.underlying5
 a5 := Tryz.isAgg5
 z5 := Tryz.sizeOf5
 v5 := Tryz.zeroValue5
 t9 := Tryz.underlying9
 a9 := Tryz.isAgg9
 z9 := Tryz.sizeOf9
 v9 := Tryz.zeroValue9
 t20 := Tryz.underlying20
 a20 := Tryz.isAgg20
 z20 := Tryz.sizeOf20
 v20 := Tryz.zeroValue20
 t37 := Tryz.underlying138
 a37 := Tryz.isAgg138
 z37 := Tryz.sizeOf138
 v37 := Tryz.zeroValue138
 t46 := Tryz.underlying187
 a46 := Tryz.isAgg187
 z46 := Tryz.sizeOf187
 v46 := Tryz.zeroValue187
 t51 := Tryz.underlying229
 a51 := Tryz.isAgg229
 z51 := Tryz.sizeOf229
 v51 := Tryz.zeroValue229
 t53 := Tryz.underlying231
 a53 := Tryz.isAgg231
 z53 := Tryz.sizeOf231
 v53 := Tryz.zeroValue231
 t171 := Tryz.underlying270
 a171 := Tryz.isAgg270
 z171 := Tryz.sizeOf270
 v171 := Tryz.zeroValue270
 t173 := Tryz.underlying272
 a173 := Tryz.isAgg272
 z173 := Tryz.sizeOf272
 v173 := Tryz.zeroValue272
 t212 := Tryz.underlying284
 a212 := Tryz.isAgg284
 z212 := Tryz.sizeOf284
 v212 := Tryz.zeroValue284
 t213 := Tryz.underlying285
 a213 := Tryz.isAgg285
 z213 := Tryz.sizeOf285
 t232 := Tryz.underlying291
 a232 := Tryz.isAgg291
 z232 := Tryz.sizeOf291
 v232 := Tryz.zeroValue291
 t233 := Tryz.underlying292
 a233 := Tryz.isAgg292
 z233 := Tryz.sizeOf292
 v233 := Tryz.zeroValue292
 g17 := by kernel_rfl
 g18 := by kernel_rfl
 g19 := by kernel_rfl
 i0 := by kernel_rfl
 i2 := by kernel_rfl
 i3 := by kernel_rfl
 i4 := by kernel_rfl
 i5 := by kernel_rfl
 i9 := by kernel_rfl
 i20 := by kernel_rfl
 i37 := by kernel_rfl
 i46 := by kernel_rfl
 i51 := by kernel_rfl
 i53 := by kernel_rfl
 i171 := by kernel_rfl
 i173 := by kernel_rfl
 i212 := by kernel_rfl
 i232 := by kernel_rfl
 i233 := by kernel_rfl
 m17 := by kernel_rfl
 m18 := by kernel_rfl
 m19 := by kernel_rfl }
theorem Tryz.strconv_Itoa (n : Int) (h0 : -9223372036854775808 ≤ n) (h1 : n ≤ 9223372036854775807) (w : World) (htab : Lib.TabIs Tryz.prog w "internal/strconv.uint64pow10" .u64 Lib.pow10Tab) :
  Calls Tryz.prog 101 #[.int .i64 n] w fun e w' => e = .returned (.string ⟨(Lib.itoa n).toArray⟩) ∧ ∃ k os, w' = grow (w.drewN k) os := Any.strconv_Itoa Tryz.laysM171 n h0 h1 w htab
def Tryz.lays171_ren : Go.Shelf.Ren := ⟨fun | 171 => 101 | 243 => 166 | 246 => 221 | 283 => 252 | 284 => 253 | 285 => 254 | 286 => 255 | 129 => 210 | 317 => 266 | 318 => 267 | 319 => 268 | 320 => 269 | 337 => 276 | 338 => 277 | n => n, fun | 3 => 3 | 9 => 9 | 2 => 2 | 4 => 4 | 171 => 270 | 0 => 0 | 53 => 231 | 37 => 138 | 5 => 5 | 173 => 272 | 212 => 284 | 51 => 229 | 20 => 20 | 213 => 285 | 46 => 187 | 232 => 291 | 233 => 292 | n => n, fun | 17 => 1 | 18 => 2 | 19 => 3 | n => n⟩
theorem Tryz.lays171 : Go.Proofs.Lays.n171 Tryz.prog Tryz.lays171_ren := {
 mixed := by kernel_rfl
 f129 := Tryz.func210.trans (congrArg some (by kernel_rfl))
 f171 := Tryz.func101.trans (congrArg some (by kernel_rfl))
 f243 := Tryz.func166.trans (congrArg some (by kernel_rfl))
 f246 := Tryz.func221.trans (congrArg some (by kernel_rfl))
 f283 := Tryz.func252.trans (congrArg some (by kernel_rfl))
 f284 := Tryz.func253.trans (congrArg some (by kernel_rfl))
 f285 := Tryz.func254.trans (congrArg some (by kernel_rfl))
 f286 := Tryz.func255.trans (congrArg some (by kernel_rfl))
 f317 := Tryz.func266.trans (congrArg some (by kernel_rfl))
 f318 := Tryz.func267.trans (congrArg some (by kernel_rfl))
 f319 := Tryz.func268.trans (congrArg some (by kernel_rfl))
 f320 := Tryz.func269.trans (congrArg some (by kernel_rfl))
 f337 := Tryz.func276.trans (congrArg some (by kernel_rfl))
 f338 := Tryz.func277.trans (congrArg some (by kernel_rfl))
 t0 := Tryz.underlying0
 a0 := Tryz.isAgg0
 z0 := Tryz.sizeOf0
 v0 := Tryz.zeroValue0
 t2 := Tryz.underlying2
 a2 := Tryz.isAgg2
 z2 := Tryz.sizeOf2
 v2 := Tryz.zeroValue2
 t3 := Tryz.underlying3
 a3 := Tryz.isAgg3
 z3 := Tryz.sizeOf3
 v3 := Tryz.zeroValue3
 t4 := Tryz.underlying4
 a4 := Tryz.isAgg4
 z4 := Tryz.sizeOf4
 v4 := Tryz.zeroValue4
 t5 := Tryz.underlying5
 a5 := Tryz.isAgg5
 z5 := Tryz.sizeOf5
 v5 := Tryz.zeroValue5
 t9 := Tryz.underlying9
 a9 := Tryz.isAgg9
 z9 := Tryz.sizeOf9
 v9 := Tryz.zeroValue9
 t20 := Tryz.underlying20
 a20 := Tryz.isAgg20
 z20 := Tryz.sizeOf20
 v20 := Tryz.zeroValue20
 t37 := Tryz.underlying138
 a37 := Tryz.isAgg138
 z37 := Tryz.sizeOf138
 v37 := Tryz.zeroValue138
 t46 := Tryz.underlying187
 a46 := Tryz.isAgg187
 z46 := Tryz.sizeOf187
 v46 := Tryz.zeroValue187
 t51 := Tryz.underlying229
 a51 := Tryz.isAgg229
 z51 := Tryz.sizeOf229
 v51 := Tryz.zeroValue229
 t53 := Tryz.underlying231
 a53 := Tryz.isAgg231
 z53 := Tryz.sizeOf231
 v53 := Tryz.zeroValue231
 t171 := Tryz.underlying270
 a171 := Tryz.isAgg270
 z171 := Tryz.sizeOf270
 v171 := Tryz.zeroValue270
 t173 := Tryz.underlying272
 a173 := Tryz.isAgg272
 z173 := Tryz.sizeOf272
 v173 := Tryz.zeroValue272
 t212 := Tryz.underlying284
 a212 := Tryz.isAgg284
 z212 := Tryz.sizeOf284
 v212 := Tryz.zeroValue284
 t213 := Tryz.underlying285
 a213 := Tryz.isAgg285
 z213 := Tryz.sizeOf285
 t232 := Tryz.underlying291
 a232 := Tryz.isAgg291
 z232 := Tryz.sizeOf291
 v232 := Tryz.zeroValue291
 t233 := Tryz.underlying292
 a233 := Tryz.isAgg292
 z233 := Tryz.sizeOf292
 v233 := Tryz.zeroValue292
 g17 := by kernel_rfl
 g18 := by kernel_rfl
 g19 := by kernel_rfl }
theorem Tryz.strconv_Itoa_small (i : Nat) (hi : i < 100) (w : World) :
  Calls Tryz.prog 101 #[.int .i64 i] w fun e w' => e = .returned (.string ⟨(Lib.decDigits i).toArray⟩) ∧ w' = w := Any.strconv_Itoa_small Tryz.lays171 i hi w
def Tryz.lays99_ren : Go.Shelf.Ren := ⟨fun | 99 => 132 | 206 => 184 | n => n, fun | 9 => 9 | 4 => 4 | 3 => 3 | n => n, fun | n => n⟩
theorem Tryz.lays99 : Go.Proofs.Lays.n99 Tryz.prog Tryz.lays99_ren := {
 mixed := by kernel_rfl
 f99 := Tryz.func132.trans (congrArg some (by kernel_rfl))
 f206 := Tryz.func184.trans (congrArg some (by kernel_rfl))
 t3 := Tryz.underlying3
 a3 := Tryz.isAgg3
 z3 := Tryz.sizeOf3
 v3 := Tryz.zeroValue3
 t4 := Tryz.underlying4
 a4 := Tryz.isAgg4
 z4 := Tryz.sizeOf4
 v4 := Tryz.zeroValue4
 t9 := Tryz.underlying9
 a9 := Tryz.isAgg9
 z9 := Tryz.sizeOf9
 v9 := Tryz.zeroValue9 }
theorem Tryz.strings_HasPrefix (s p : ByteArray) (w : World) :
  Calls Tryz.prog 132 #[.string s, .string p] w fun e w' => e = .returned (.bool (Lib.hasPrefix s.data.toList p.data.toList)) ∧ w' = w := Any.strings_HasPrefix Tryz.lays99 s p w
end Go.Proofs
namespace Go.Proofs.YtjdgpgfiomnjkaaGreatDoor
open Go.RowKit
set_option linter.unusedVariables false
set_option linter.unusedSimpArgs false
set_option maxHeartbeats 400000 in
theorem put1_any (r : Rf) (s : ByteArray) (w : World) :
  Calls Tryz.prog 260 #[.agg #[.string r.name, .int .i64 r.id], .string s] w fun e w' => e = .returned (.int .i64 (cmpS r.name s)) ∧ Below w.heap.size w w' := by
 have hb1 : Below w.heap.size w (w.alloc (.cells #[.string r.name, .int .i64 r.id] 62)) := (Below.refl _ _).alloc (Nat.le_refl _) _
 have HC := Lib.hid (fun x => Tryz.strings_Compare r.name s x)
 unfold cmpS
 generalize Lib.compareBytes r.name.data.toList s.data.toList = c at *
 go_enter Tryz.func260, Tryz.ntmps260
 go_wp2_with fail
 refine (HC.out _).mono ?_
 rintro e w' ⟨rfl, hw⟩
 subst hw
 go_wp2_with fail
 go_ret
 exact ⟨rfl, hb1⟩
theorem loR_eq {l : List Rf} {s : ByteArray} {i : Nat} (hi : i ≤ l.length) (h1 : ∀ j, j < i → strLt (rf l j).name s = true) (h2 : i < l.length → strLt (rf l i).name s = false) : loR l s = i := by
 unfold loR
 induction l generalizing i with
 | nil => simp at hi; subst hi; rfl
 | cons x l ih =>
  cases i with
  | zero =>
   have := h2 (by simp)
   rw [List.takeWhile_cons]
   have e : rf (x :: l) 0 = x := rfl
   rw [e] at this
   rw [this]; rfl
  | succ i =>
   have := h1 0 (by omega)
   have e : rf (x :: l) 0 = x := rfl
   rw [e] at this
   rw [List.takeWhile_cons, this]
   simp only [if_true, List.length_cons]
   rw [ih (i := i) (by simpa using hi) (fun j hj => h1 (j + 1) (by omega)) (fun h => h2 (by simpa using h))]
def isRB (l : List Rf) (s : ByteArray) : Bool := decide (loR l s < l.length) && (cmpS (rf l (loR l s)).name s == 0)
set_option maxRecDepth 100000 in
set_option maxHeartbeats 2000000 in
theorem searchR_any (l : List Rf) (v : Value) (S : Nat → Prop) (s : ByteArray) (w : World) (h : RefsV S w v l) (hr : Asc l) :
  Calls Tryz.prog 259 #[v, .string s, .func (.func 260) #[] #[]] w fun e w' => e = .returned (.tuple #[.int .i64 (loR l s), .bool (isRB l s)]) ∧ Below w.heap.size w w' := by
 obtain ⟨a, n, cap, HN, rfl, h1, h2, h3, h4, h5⟩ := h.open
 clear h h5
 obtain ⟨R, hR, hR1, _⟩ := cls_plain w
 have hRb := hR.below
 have hRn := hR.next
 have Hlo := Lib.hid (fun i (hi : i ≤ n) h1 h2 => loR_eq (l := l) (s := s) (i := i) (by rw [← HN.out]; exact hi) h1 h2)
 have Hr := Lib.hid (asc_iff.1 hr)
 clear hr
 go_enter Tryz.func259, Tryz.ntmps259
 go_wp2_with fail
 go_loopg [9, 10] n (fun kx s9 s10 wr => ∃ i j : Nat, s9 = .int .i64 i ∧ s10 = .int .i64 j ∧ i ≤ j ∧ j ≤ n ∧ j - i ≤ kx ∧ In R wr ∧
  Hid ((∀ t, t < i → strLt (rf l t).name s = true) ∧ (∀ t, j ≤ t → t < n → strLt (rf l t).name s = false)))
 case atStart => exact ⟨0, n, rfl, rfl, by omega, by omega, by omega, hR1, ⟨fun t ht => absurd ht (by omega), fun t h1 h2 => by omega⟩⟩
 case round =>
  clear hR1
  obtain ⟨i, j, rfl, rfl, hij, hjn, hg, hRw, I⟩ := hrel
  by_cases hlt : i < j
  ·obtain ⟨b, off, rfl, hb, k0, k1⟩ := h4 (by omega)
   clear h4
   have m1 : ((i + j) / 2 : Nat) < n := by omega
   have x0 := k0 ((i + j) / 2) wr m1 (hRb _ hRw)
   have x1 := k1 ((i + j) / 2) wr m1 (hRb _ hRw)
   clear k0 k1
   have Hc := Lib.hid (cmpS_lt (rf l ((i + j) / 2)).name s)
   by_cases hc : cmpS (rf l ((i + j) / 2)).name s < 0
   ·have HC := Lib.hid (Hc.out.1 hc)
    have hc1 : decide (cmpS (rf l ((i + j) / 2)).name s < 0) = true := decide_eq_true hc
    clear hc
    go_wp2_with (go_at_call 260; refine (put1_any _ _ _).mono ?_; rintro e w' ⟨rfl, hb2⟩; have hR2 := hRn _ _ hRw hb2)
    go_roundg (j - ((i + j) / 2 + 1))
    case measure => omega
    case rel =>
     have I2 : Hid ((∀ t, t < (i + j) / 2 + 1 → strLt (rf l t).name s = true) ∧ (∀ t, j ≤ t → t < n → strLt (rf l t).name s = false)) := ⟨fun t ht => by
      by_cases e : t = (i + j) / 2
      ·subst e; exact HC.out
      ·exact strLt_trans (Hr.out t ((i + j) / 2) (by omega) (by have := HN.out; omega)) HC.out, I.out.2⟩
     exact ⟨(i + j) / 2 + 1, j, by rw [show ((i : Int) + (j : Int)) / 2 + 1 = (((i + j) / 2 + 1 : Nat) : Int) by omega], rfl, by omega, hjn, Nat.le_refl _, hR2, I2⟩
   ·have HC := Lib.hid (show strLt (rf l ((i + j) / 2)).name s = false by
     cases e : strLt (rf l ((i + j) / 2)).name s
     ·rfl
     ·exact absurd (Hc.out.2 e) hc)
    have hc1 : decide (cmpS (rf l ((i + j) / 2)).name s < 0) = false := decide_eq_false hc
    clear hc
    go_wp2_with (go_at_call 260; refine (put1_any _ _ _).mono ?_; rintro e w' ⟨rfl, hb2⟩; have hR2 := hRn _ _ hRw hb2)
    go_roundg ((i + j) / 2 - i)
    case measure => omega
    case rel =>
     have I2 : Hid ((∀ t, t < i → strLt (rf l t).name s = true) ∧ (∀ t, (i + j) / 2 ≤ t → t < n → strLt (rf l t).name s = false)) := ⟨I.out.1, fun t ht htn => by
      by_cases e : t = (i + j) / 2
      ·subst e; exact HC.out
      ·cases e2 : strLt (rf l t).name s
       ·rfl
       ·have := strLt_trans (Hr.out ((i + j) / 2) t (by omega) (by have := HN.out; omega)) e2
        rw [HC.out] at this; cases this⟩
     exact ⟨i, (i + j) / 2, rfl, by rw [show ((i : Int) + (j : Int)) / 2 = (((i + j) / 2 : Nat) : Int) by omega], by omega, by omega, Nat.le_refl _, hR2, I2⟩
  ·obtain rfl : j = i := by omega
   have HL := Lib.hid (Hlo.out j hjn I.out.1 (fun h => I.out.2 j (Nat.le_refl _) (by have := HN.out; omega)))
   by_cases hn : j < n
   ·obtain ⟨b, off, rfl, hb, k0, k1⟩ := h4 (by omega)
    clear h4
    have x0 := k0 j wr hn (hRb _ hRw)
    have x1 := k1 j wr hn (hRb _ hRw)
    clear k0 k1
    have Hn := Lib.hid (show j < l.length by have := HN.out; omega)
    cases hq : (cmpS (rf l j).name s == 0)
    all_goals
     have HB := Lib.hid (show isRB l s = (cmpS (rf l j).name s == 0) by unfold isRB; rw [HL.out]; simp [Hn.out])
     rw [hq] at HB
     go_wp2_with (go_at_call 260; refine (put1_any _ _ _).mono ?_; rintro e w' ⟨rfl, hb2⟩; have hR2 := hRn _ _ hRw hb2)
     go_ret2
     exact ⟨ret_ib (congrArg _ HL.out.symm) HB.out.symm, hRb _ hR2⟩
   ·have HB := Lib.hid (show isRB l s = false by unfold isRB; rw [HL.out, ← HN.out]; simp [hn])
    go_wp2
    go_ret2
    exact ⟨ret_ib (congrArg _ HL.out.symm) HB.out.symm, hRb _ hRw⟩
def MoverAt (B J : Nat) (ov : Value) (force : Bool) (w : World) (l : List Rf) : Prop :=
 ∃ v, OwnR B w v l ∧ v.ownBlock ≠ some J ∧ w.heap[J]? = some (.cells #[v, ov, .bool force] 216 (0, 0))
theorem MoverAt.below {B J : Nat} {ov : Value} {force : Bool} {w w' : World} {l : List Rf} (h : MoverAt B J ov force w l) (hb : Below w.heap.size w w') : MoverAt B J ov force w' l := by
 obtain ⟨v, h1, h2, h3⟩ := h
 exact ⟨v, h1.below hb, h2, (hb.block _ (lt_of_block h3)).trans h3⟩
theorem mover_end {B J : Nat} {ov : Value} {force : Bool} {w xo w9 : World} {v v' : Value} {l m : List Rf} (hB : B ≤ J) (hJw : J < w.heap.size) (hown : OwnR B w v l) (hvJ : v.ownBlock ≠ some J) (hcJ : w.heap[J]? = some (.cells #[v, ov, .bool force] 216 (0, 0)))
  (hb : Below w.heap.size w xo) (hG : OwnR B w9 v' m) (hu : Upd (fun b => v.ownBlock = some b) xo w9) (hat : v'.ownBlock = v.ownBlock ∨ ∃ k, v'.ownBlock = some k ∧ xo.heap.size ≤ k) :
  MoverAt B J ov force (w9.setCell ⟨J, 0, none⟩ v') m ∧ Below B w (w9.setCell ⟨J, 0, none⟩ v') := by
 have h1 := hb.size
 have hJ9 : w9.heap[J]? = some (.cells #[v, ov, .bool force] 216 (0, 0)) := hu.blk ((hb.block _ hJw).trans hcJ) hvJ
 have hu2 : Upd (fun b => b = J) w9 (w9.setCell ⟨J, 0, none⟩ v') := (Upd.refl (fun b => b = J) w9).setCell (p := ⟨J, 0, none⟩) (fun _ => rfl) _
 have hv' : v'.ownBlock ≠ some J := by
  rcases hat with h | ⟨k, h, hk⟩
  ·rw [h]; exact hvJ
  ·rw [h]; intro e; cases e; omega
 refine ⟨⟨v', hG.upd hu2 (fun g hg e => hv' (by rw [hg, e])), hv', block_setCell (j := 0) hJ9 v'⟩, ?_⟩
 exact (hb.mono (by omega)).trans ((hu.below (by omega) (fun b hb => (hown.block hb).1)).trans (hu2.below (B := B) (by have := hu.size; omega) (fun b e => by omega)))
end Go.Proofs.YtjdgpgfiomnjkaaGreatDoor
