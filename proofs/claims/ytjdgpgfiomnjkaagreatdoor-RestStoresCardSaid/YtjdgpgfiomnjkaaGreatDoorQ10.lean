
/- Memory: refs in a row of the call's own: append, slices.Clone, slices.Insert, slices.Delete. -/
import Derived.Test.YtjdgpgfiomnjkaaGreatDoorQ7
import Derived.Test.YtjdgpgfiomnjkaaGreatDoorQ9
import Derived.Deep.RegionLaw
import Derived.Lib.SliceRun
import Derived.Lib.Bytealg
namespace Go.Proofs.YtjdgpgfiomnjkaaGreatDoor
open Go.RowKit
set_option linter.unusedVariables false
set_option linter.unusedSimpArgs false
set_option linter.unusedSectionVars false
variable [Ghost]
def rfCells (r : Rf) : List Value := [.string r.name, .int .i64 r.id]
def RfOk (r : Rf) : Prop := I64 r.id ∧ r.name.size ≤ 140737488351232
def OwnR (B : Nat) (w : World) (v : Value) (l : List Rf) : Prop :=
 w.ownsRow B 62 2 v l.length (flat (fun i => rfCells (rf l i)) l.length) ∧ ∀ r ∈ l, RfOk r
theorem OwnR.nil (B : Nat) (w : World) : OwnR B w (.slice none 0 0) [] := ⟨World.ownsRow_nil _ _ _ _, fun r h => by cases h⟩
theorem OwnR.below {B : Nat} {w w' : World} {v : Value} {l : List Rf} (h : OwnR B w v l) (hb : Below w.heap.size w w') : OwnR B w' v l := ⟨own_below h.1 hb, h.2⟩
theorem OwnR.upd {T : Nat → Prop} {B : Nat} {w w' : World} {v : Value} {l : List Rf} (h : OwnR B w v l) (hu : Upd T w w') (hv : ∀ g, v.ownBlock = some g → ¬ T g) : OwnR B w' v l := ⟨own_upd h.1 hu hv, h.2⟩
theorem OwnR.mono {B B' : Nat} {w : World} {v : Value} {l : List Rf} (h : OwnR B w v l) (hB : B' ≤ B) : OwnR B' w v l := ⟨own_mono h.1 hB, h.2⟩
theorem OwnR.shape {B : Nat} {w : World} {v : Value} {l : List Rf} (h : OwnR B w v l) : ∃ a c, v = .slice a l.length c := own_shape h.1
theorem OwnR.block {B : Nat} {w : World} {v : Value} {l : List Rf} (h : OwnR B w v l) {g : Nat} (hg : v.ownBlock = some g) : B ≤ g ∧ g < w.heap.size := h.1.lt g hg
theorem OwnR.refs {B : Nat} {w : World} {v : Value} {l : List Rf} (h : OwnR B w v l) (hl : l.length * 24 ≤ 140737488351232) : RefsV (fun b => B ≤ b ∧ v.ownBlock = some b) w v l :=
 ⟨own_sl h.1 (fun g hg => ⟨(h.block hg).1, hg⟩) hl (fun i hi j u hu => flat_get (cs := fun i => rfCells (rf l i)) (fun _ _ => rfl) i hi j u hu), h.2⟩
theorem OwnR.any {B : Nat} {w : World} {v : Value} {l : List Rf} (h : OwnR B w v l) (hl : l.length * 24 ≤ 140737488351232) : RefsV (fun _ => True) w v l := (h.refs hl).weaken fun _ _ => trivial
theorem rf_snoc_lt {l : List Rf} {o : Rf} {i : Nat} (h : i < l.length) : rf (l ++ [o]) i = rf l i := by
 unfold rf at_; simp only [List.getD_eq_getElem?_getD, List.getElem?_append_left h]
theorem rf_snoc_eq {l : List Rf} {o : Rf} : rf (l ++ [o]) l.length = o := by
 unfold rf at_; simp
theorem one_rf (r : Rf) : ∀ u ∈ rfCells r, u.oneCell' = true := by
 intro u hu
 simp only [rfCells, List.mem_cons, List.not_mem_nil, or_false] at hu
 rcases hu with rfl | rfl <;> rfl
theorem flat_snoc_rf (l : List Rf) (p : Rf) : flat (fun i => rfCells (rf (l ++ [p]) i)) (l ++ [p]).length = flat (fun i => rfCells (rf l i)) l.length ++ rfCells p := by
 rw [List.length_append, List.length_singleton, flat, flat_congr (fun i hi => by rw [rf_snoc_lt hi]), rf_snoc_eq]
theorem wpList_append_rf {ops : Array Oper} {rest : List Oper} {o : Oper} {a : Act} {w : World} {Q : Exit → Act → World → Prop} (hgd : o.guard = none) (s x : Operand)
  (ho : o.op = .call { callee := .builtin .append, args := #[s, x], argTypes := #[23, 23] }) {B : Nat} {v : Value} {l : List Rf} {p : Rf}
  (hG : OwnR B w v l) (hp : RfOk p) (hl : (l.length + 1) * 24 ≤ 140737488351232) (hB : B ≤ w.heap.size)
  (hs : a.eval s = v) {N : Nat} (hx : a.eval x = .slice (some ⟨N, 0, none⟩) 1 1) (hN : N = w.heap.size)
  (h : ∀ v' w', OwnR B w' v' (l ++ [p]) → Upd (fun b => v.ownBlock = some b) w w' → wpList Tryz.prog ops Q rest (a.put o.dst v') w') :
  wpList Tryz.prog ops Q (o :: rest) a (w.alloc (.cells #[.string p.name, .int .i64 p.id] 62)) := by
 subst hN
 obtain ⟨i0, hi, hz0, hz1, hz2⟩ := info_parts Tryz.infoRef
 refine wpList_append_own_at _ hgd s x 23 ho B 62 i0 _ 2 24 Tryz.underlying23 hi hz0 hz1 hz2 rfl (by decide) v l.length _ hs (hG.1.alloc _) ⟨w.heap.size, 0, none⟩ 1 1 (rfCells p) hx rfl
  (World.news_of_block (cs := #[.string p.name, .int .i64 p.id]) (t := 62) (fr := (0, 0)) (heap_alloc_new w _)) (one_rf p) ?_ (by omega) (by simp; omega) ?_
 ·unfold maxLen; omega
 ·intro v' w' hown' hgrow _ hat
  refine h v' w' ⟨?_, fun r hr => ?_⟩ (Upd.grown ((Upd.refl _ _).alloc _) hgrow (fun k hk _ => hk))
  ·rw [flat_snoc_rf, List.length_append, List.length_singleton]; exact hown'
  ·rcases List.mem_append.1 hr with hr | hr
   ·exact hG.2 r hr
   ·rw [List.mem_singleton.1 hr]; exact hp
theorem refs_news {S : Nat → Prop} {w : World} {a : Option Addr} {n cap : Nat} {l : List Rf} (h : RefsV S w (.slice a n cap) l) (hn : 0 < l.length) :
  ∃ ad, a = some ad ∧ ∀ j u, (flat (fun i => rfCells (rf l i)) l.length)[j]? = some u → w.cell? (ad.add j) = some u := by
 obtain ⟨⟨a', cap', hv, h1, h2, h3, h4⟩, _⟩ := h
 cases hv
 obtain ⟨b, off, rfl, hb, hc⟩ := h4 hn
 refine ⟨_, rfl, fun j u hu => ?_⟩
 have hj : j < l.length * 2 := by
  rcases Nat.lt_or_ge j (l.length * 2) with h | h
  ·exact h
  ·rw [List.getElem?_eq_none (by rw [flat_length (sz := 2) fun _ _ => rfl]; exact h)] at hu; cases hu
 have hi' : j / 2 < l.length := by omega
 have hm : j % 2 < (rfCells (rf l (j / 2))).length := by show j % 2 < 2; omega
 have e := flat_get (cs := fun i => rfCells (rf l i)) (sz := 2) (n := l.length) (fun _ _ => rfl) (j / 2) hi' (j % 2) _ (List.getElem?_eq_getElem hm)
 rw [show j / 2 * 2 + j % 2 = j by omega, hu] at e
 have := hc (j / 2) hi' (j % 2) u (by show (rfCells (rf l (j / 2)))[j % 2]? = some u; rw [List.getElem?_eq_getElem hm]; exact e.symm)
 rw [show (⟨b, off, none⟩ : Addr).add j = ⟨b, off + j, none⟩ by unfold Addr.add; split <;> simp_all]
 rw [show off + j = off + j / 2 * 2 + j % 2 by omega]; exact this
theorem one_flat_rf (l : List Rf) : ∀ u ∈ flat (fun i => rfCells (rf l i)) l.length, u.oneCell' = true := one_flat fun _ _ => one_rf _
theorem appendRefs_row {B : Nat} {w : World} {v mv : Value} {l more : List Rf} {S : Nat → Prop} (ty : TypeId) (hG : OwnR B w v l) (h : RefsV S w mv more)
  (hl : (l.length + more.length) * 24 ≤ 140737488351232) (hB : B ≤ w.heap.size) :
  ∃ v' x, (Builtin.append_ #[23, 23] ty #[v, mv]).run Tryz.prog w = .ok v' x ∧ OwnR B x v' (l ++ more) ∧ Upd (fun b => v.ownBlock = some b) w x := by
 obtain ⟨i0, hi, hz0, hz1, hz2⟩ := info_parts Tryz.infoRef
 have hG' := hG
 obtain ⟨hown, hok⟩ := hG
 have h' := h
 obtain ⟨⟨a, cap, rfl, hc1, hc2, hc3, _⟩, hok2⟩ := h
 have hok3 : ∀ r ∈ l ++ more, RfOk r := fun r hr => by
  rcases List.mem_append.1 hr with hr | hr
  ·exact hok r hr
  ·exact hok2 r hr
 by_cases h0 : more.length = 0
 ·obtain rfl : more = [] := List.length_eq_zero_iff.1 h0
  obtain ⟨base, sc, hv, hle⟩ : ∃ base sc, v = .slice base l.length sc ∧ l.length ≤ sc := by
   rcases hown.2 with ⟨rfl, hn⟩ | ⟨g, c, cur, rfl, _, _, hn, _⟩
   ·exact ⟨none, 0, by rw [hn], by omega⟩
   ·exact ⟨_, _, rfl, hn⟩
  subst hv
  refine ⟨_, w, run_append_nothing _ 23 23 ty 62 i0 Tryz.underlying23 hi base l.length sc hle _
   ⟨.inl ⟨_, Tryz.underlying23⟩, fun w' => by simp [Builtin.lenOf], by cases a <;> simp [Builtin.firstCells] <;> rfl, by cases a <;> simp [Builtin.firstCells] <;> rfl, by simp, by simp⟩, ?_, Upd.refl _ _⟩
  rw [List.append_nil]; exact hG'
 ·obtain ⟨ad, rfl, hnews⟩ := refs_news h' (by omega)
  obtain ⟨g, c, x, hr, ho, hg, hor, hlt⟩ := run_append_lies (P := Tryz.prog) w 23 ty B 62 i0 _ 2 24 Tryz.underlying23 hi hz0 hz1 hz2 rfl (by omega) v l.length _ hown ad more.length cap
   (flat (fun i => rfCells (rf more i)) more.length) (flat_length fun _ _ => rfl) hnews (one_flat_rf _) (by omega) (by unfold maxLen; omega) (by omega) hB _ rfl
  refine ⟨_, x, hr, ⟨?_, hok3⟩, Upd.grown (Upd.refl _ _) hg (fun k hk _ => hk)⟩
  rw [List.length_append, flat_add]
  have e1 : flat (fun i => rfCells (rf (l ++ more) i)) l.length = flat (fun i => rfCells (rf l i)) l.length :=
   flat_congr fun i hi => by
    have : rf (l ++ more) i = rf l i := by unfold rf at_; simp only [List.getD_eq_getElem?_getD, List.getElem?_append_left hi]
    rw [this]
  have e2 : flat (fun j => rfCells (rf (l ++ more) (l.length + j))) more.length = flat (fun i => rfCells (rf more i)) more.length :=
   flat_congr fun i hi => by
    have : rf (l ++ more) (l.length + i) = rf more i := by
     unfold rf at_; simp only [List.getD_eq_getElem?_getD]
     rw [List.getElem?_append_right (by omega), show l.length + i - l.length = i by omega]
    rw [this]
  rw [e1, e2]; exact ho
theorem ownR_empty (w : World) : OwnR w.heap.size (w.alloc (.cells #[] 62)) (.slice (some ⟨w.heap.size, 0, none⟩) 0 0) [] :=
 ⟨World.ownsRow_made w #[] 0 (Nat.le_refl _) (Nat.zero_le _) (by simp), fun r h => by cases h⟩
set_option maxHeartbeats 1000000 in
theorem cloneRefs_any (l : List Rf) (v : Value) (S : Nat → Prop) (w : World) (h : RefsV S w v l) :
  Calls Tryz.prog 194 #[v] w fun e w' => ∃ v', e = .returned v' ∧ OwnR w.heap.size w' v' l ∧ Below w.heap.size w w' := by
 have h' := h
 obtain ⟨a, n, cap, HN, rfl, h1, h2, h3, h4, h5⟩ := h.open
 clear h4 h5 h
 have q22 : ∀ (w : World) (a : Option Addr) (n c n' c' : Nat), (binOp .eql 23 (.slice a n c) (.slice none n' c')).run Tryz.prog w = .ok (.bool a.isNone) w := fun w a n c n' c' => Lib.run_eql_slice_nil w _ _ a n c n' c' Tryz.underlying23
 cases a with
 | none =>
  have hl0 : l = [] := by
   obtain ⟨⟨a, cap, e, _, _, _, h4⟩, _⟩ := h'
   cases e
   rcases Nat.eq_zero_or_pos l.length with h | h
   ·exact List.length_eq_zero_iff.1 h
   ·obtain ⟨b, off, e, _⟩ := h4 h; cases e
  subst hl0
  go_enter Tryz.func194, Tryz.ntmps194
  go_wp2_with fail
  go_ret
  exact ⟨_, rfl, OwnR.nil _ _, Below.refl _ _⟩
 | some ad =>
  have hB0 : Below w.heap.size w (w.alloc (.cells #[] 62)) := (Below.refl _ _).alloc (Nat.le_refl _) _
  obtain ⟨v1, x1, hr1, ho1, hu1⟩ := appendRefs_row (l := []) 23 (ownR_empty w) (h'.below hB0) (by have := HN.out; simp; omega) hB0.size
  have hB1 : Below w.heap.size w x1 := hB0.trans (hu1.below (B := w.heap.size) hB0.size (fun b hb => ((ownR_empty w).block hb).1))
  rw [List.nil_append] at ho1
  have HE := Lib.hid (And.intro ho1 hB1)
  obtain ⟨a1, c1, rfl⟩ := ho1.shape
  clear ho1 hB1 hu1 hB0 h'
  go_enter Tryz.func194, Tryz.ntmps194
  go_wp2_with (at_builtin; refine wpList_append_run rfl (.tmp 5) (.tmp 6) 23 rfl _ _ _ rfl rfl hr1 ?_)
  go_ret
  exact ⟨_, rfl, HE.out.1, HE.out.2⟩
theorem insertRefs_any {B i : Nat} {w : World} {v : Value} {l : List Rf} {r : Rf} (hG : OwnR B w v l) (hr : RfOk r) (hl : l.length ≤ 1000) (hB : B ≤ w.heap.size) (hi : i ≤ l.length) {N : Nat} (hN : N = w.heap.size) :
  Calls Tryz.prog 261 #[v, .int .i64 i, .slice (some ⟨N, 0, none⟩) 1 1] (w.alloc (.cells #[.string r.name, .int .i64 r.id] 62))
   fun e w' => ∃ v', e = .returned v' ∧ OwnR B w' v' (insR l i r) ∧ Upd (fun b => v.ownBlock = some b) w w' ∧ (v'.ownBlock = v.ownBlock ∨ ∃ k, v'.ownBlock = some k ∧ w.heap.size ≤ k) := by
 subst hN
 obtain ⟨hown, hok⟩ := hG
 have hv : ∀ g, v.ownBlock = some g → g < w.heap.size := fun g hg => (hown.lt g hg).2
 refine (insertR_row (xs := flat (fun j => rfCells (rf l j)) l.length) (ys := rfCells r) (i := i) (hown.alloc _) (heap_alloc_new w _) (fun e => Nat.lt_irrefl _ (hv _ e)) rfl (one_rf r) (one_flat_rf _) hl (by simp; omega) hi).mono ?_
 rintro e w' ⟨v', rfl, hown', hgrow, hat⟩
 have hu : Upd (fun b => v.ownBlock = some b) w w' := Upd.grown ((Upd.refl _ _).alloc _) hgrow (fun k hk _ => hk)
 refine ⟨v', rfl, ⟨?_, fun x hx => ?_⟩, hu, ?_⟩
 ·have hil : (insR l i r).length = l.length + 1 := by unfold insR; simp; omega
  rw [hil]
  have e1 := put2_flat (f := fun j => rfCells (rf l j)) (g := fun j => rfCells (rf (insR l i r) j)) (n := l.length) (i := i) (ys := rfCells r) (fun _ _ => rfl) hi
   (fun j hj => by
    have : rf (insR l i r) j = rf l j := by
     unfold insR rf at_; simp only [List.getD_eq_getElem?_getD]
     rw [List.append_assoc, List.getElem?_append_left (by rw [List.length_take]; omega), List.getElem?_take, if_pos hj]
    simp only [this])
   (by
    have : rf (insR l i r) i = r := by
     unfold insR rf at_; simp only [List.getD_eq_getElem?_getD]
     rw [List.append_assoc, List.getElem?_append_right (by rw [List.length_take]; omega), List.length_take, show i - min i l.length = 0 by omega]; rfl
    simp only [this])
   (fun j hj hjn => by
    have : rf (insR l i r) (j + 1) = rf l j := by
     unfold insR rf at_; simp only [List.getD_eq_getElem?_getD]
     rw [List.append_assoc, List.getElem?_append_right (by rw [List.length_take]; omega), List.length_take, show j + 1 - min i l.length = (j - i) + 1 by omega]
     show (r :: l.drop i)[_]?.getD _ = _
     rw [List.getElem?_cons_succ, List.getElem?_drop, show i + (j - i) = j by omega]
    simp only [this])
  rw [← e1]; exact hown'
 ·unfold insR at hx
  rcases List.mem_append.1 hx with hx | hx
  ·rcases List.mem_append.1 hx with hx | hx
   ·exact hok x (List.mem_of_mem_take hx)
   ·rw [List.mem_singleton.1 hx]; exact hr
  ·exact hok x (List.mem_of_mem_drop hx)
 ·rcases hat with h | ⟨k, h, hk⟩
  ·exact .inl h
  ·exact .inr ⟨k, h, by simp at hk; omega⟩
theorem setCells_heap (g : Nat) (t : TypeId) : ∀ (vs : List Value) (o : Nat) (cur : Array Value) (w : World), w.heap[g]? = some (.cells cur t (0, 0)) → o + vs.length ≤ cur.size →
  (w.setCells g o vs).heap[g]? = some (.cells (cur.toList.take o ++ vs ++ cur.toList.drop (o + vs.length)).toArray t (0, 0))
 | [], o, cur, w, hg, _ => by
  simp only [World.setCells, List.append_nil, List.length_nil, Nat.add_zero, List.take_append_drop, Array.toArray_toList]; exact hg
 | v :: vs, o, cur, w, hg, hl => by
  simp only [List.length_cons] at hl
  rw [World.setCells, setCells_heap g t vs (o + 1) (cur.setIfInBounds o v) (w.setCell ⟨g, o, none⟩ v) (block_setCell hg v) (by simp; omega)]
  congr 3
  simp only [Array.toList_setIfInBounds, List.length_cons]
  have hol : o < cur.toList.length := by simp; omega
  rw [show o + (vs.length + 1) = o + 1 + vs.length by omega]
  have e1 : (cur.toList.set o v).take (o + 1) = cur.toList.take o ++ [v] := by
   rw [List.set_eq_take_append_cons_drop, if_pos hol]
   rw [List.take_append, List.length_take, List.take_of_length_le (by rw [List.length_take]; omega)]
   rw [show o + 1 - min o cur.toList.length = 1 by omega]
   simp
  have e2 : (cur.toList.set o v).drop (o + 1 + vs.length) = cur.toList.drop (o + 1 + vs.length) := by
   rw [List.drop_set_of_lt (by omega)]
  rw [e1, e2, List.append_assoc (List.take o cur.toList) [v] vs]; rfl
theorem setCells_frame (g : Nat) : ∀ (vs : List Value) (o : Nat) (w : World), Upd (fun b => b = g) w (w.setCells g o vs)
 | [], _, w => Upd.refl _ _
 | v :: vs, o, w => ((Upd.refl (fun b => b = g) w).setCell (p := ⟨g, o, none⟩) (fun _ => rfl) v).trans (setCells_frame g vs (o + 1) _) (fun _ _ h => h)
theorem run_clear_rf (w : World) (ty : TypeId) (g o c : Nat) (h : ∀ j, j < 2 → (w.cell? ⟨g, o + j, none⟩).isSome = true) (hf : ∀ j, j < 2 → w.frozen? ⟨g, o + j, none⟩ = false) :
  (Builtin.clear_ #[23] ty #[.slice (some ⟨g, o, none⟩) 1 c]).run Tryz.prog w = .ok (.tuple #[]) (w.setCells g o [.string ⟨#[]⟩, .int .i64 0]) := by
 have hv : ∀ w, (zeroValue 62).run Tryz.prog w = .ok (.agg #[.string ⟨#[]⟩, .int .i64 0]) w := fun _ => by kernel_rfl
 have hst := run_storeCells_cells (P := Tryz.prog) g o [.string ⟨#[]⟩, .int .i64 0] 0 w (by simpa using h) (by simpa using hf) (by intro v hv'; simp at hv'; rcases hv' with rfl | rfl <;> rfl)
 simp only [Nat.add_zero] at hst
 have hz : (Builtin.zeroCells (Value.agg #[.string ⟨#[]⟩, .int .i64 0]).cells 1).toList = [.string ⟨#[]⟩, .int .i64 0] := by kernel_rfl
 simp [Builtin.clear_, run_underlying Tryz.underlying23, hv, hz, hst]
set_option maxRecDepth 100000 in
set_option maxHeartbeats 4000000 in
theorem deleteRefs_any {B i : Nat} {w : World} {v : Value} {l : List Rf} (hG : OwnR B w v l) (hl : l.length ≤ 1000) (hi : i < l.length) :
  Calls Tryz.prog 237 #[v, .int .i64 i, .int .i64 ((i : Int) + 1)] w
   fun e w' => ∃ v', e = .returned v' ∧ OwnR B w' v' (without l i) ∧ Upd (fun b => v.ownBlock = some b) w w' ∧ v'.ownBlock = v.ownBlock := by
 obtain ⟨i0, hi0, hz0, hz1, hz2⟩ := info_parts Tryz.infoRef
 obtain ⟨⟨hxl, hown⟩, hok⟩ := hG
 rcases hown with ⟨rfl, h0⟩ | ⟨g, cap, cur, rfl, hBg, hg, hnc, hcm, hcs, hxs⟩
 ·omega
 obtain ⟨n, hn⟩ : ∃ n, n = l.length := ⟨_, rfl⟩
 rw [← hn] at hl hi hnc hxs hxl ⊢
 obtain ⟨xs, hx⟩ : ∃ xs, xs = flat (fun i => rfCells (rf l i)) n := ⟨_, rfl⟩
 rw [← hx] at hxs hxl
 have hx1 : ∀ u ∈ xs, u.oneCell' = true := by rw [hx, hn]; exact one_flat_rf l
 obtain ⟨news, hnews⟩ : ∃ news, news = xs.drop ((i + 1) * 2) := ⟨_, rfl⟩
 have hnl : news.length = (n - (i + 1)) * 2 := by rw [hnews, List.length_drop, hxl]; omega
 have hn1 : ∀ u ∈ news, u.oneCell' = true := fun u hu => hx1 u (by rw [hnews] at hu; exact List.mem_of_mem_drop hu)
 have hcl : ∀ j, j < cap * 2 → (w.cell? ⟨g, j, none⟩).isSome = true := fun j hj => by
  rw [World.cell?]; simp [hg, hcs, hj]
 have hfr : ∀ j, w.frozen? ⟨g, j, none⟩ = false := fun j => block_free hg
 have hgx : ∀ j u, xs[j]? = some u → w.cell? ⟨g, j, none⟩ = some u := fun j u hu => by
  refine block_cell hg ?_
  rw [← hxs, List.getElem?_take] at hu
  split at hu
  ·simpa using hu
  ·cases hu
 obtain ⟨A, hA, hsrc⟩ : ∃ A : Addr, (if cap = i + 1 then some (⟨g, 0, none⟩ : Addr) else some ⟨g, (i + 1) * 2, none⟩) = some A ∧ Hid (∀ t u, news[t]? = some u → w.drew.cell? (A.add t) = some u) := by
  by_cases h : cap = i + 1
  ·refine ⟨⟨g, 0, none⟩, by simp [h], fun t u hu => ?_⟩
   have h0 : news.length = 0 := by rw [hnl]; omega
   rw [List.length_eq_zero_iff.1 h0] at hu
   simp at hu
  ·refine ⟨⟨g, (i + 1) * 2, none⟩, by simp [h], fun t u hu => ?_⟩
   rw [hnews, List.getElem?_drop] at hu
   have : (⟨g, (i + 1) * 2, none⟩ : Addr).add t = ⟨g, (i + 1) * 2 + t, none⟩ := by unfold Addr.add; split <;> simp_all
   rw [this]
   exact hgx _ u hu
 obtain ⟨W1, hW1⟩ : ∃ W1, W1 = w.drew.setCells g (i * 2) news := ⟨_, rfl⟩
 have hu1 : Upd (fun b => b = g) w W1 := by rw [hW1]; exact ((Upd.refl _ w).drew).trans (setCells_frame g news _ _) (fun _ _ h => h)
 have hW1g : W1.heap[g]? = some (.cells (cur.toList.take (i * 2) ++ news ++ cur.toList.drop (i * 2 + news.length)).toArray 62 (0, 0)) := by
  rw [hW1]; exact setCells_heap g _ news (i * 2) cur w.drew hg (by rw [hnl, hcs]; omega)
 have hcurl : cur.toList.length = cap * 2 := by simp [hcs]
 obtain ⟨C1, hC1⟩ : ∃ C1 : List Value, C1 = cur.toList.take (i * 2) ++ news ++ cur.toList.drop (i * 2 + news.length) := ⟨_, rfl⟩
 rw [← hC1] at hW1g
 have hC1l : C1.length = cap * 2 := by rw [hC1]; simp only [List.length_append, List.length_take, List.length_drop, hcurl, hnl]; omega
 have hclr : ∀ ty, (Builtin.clear_ #[23] ty #[.slice (some ⟨g, (n - 1) * 2, none⟩) 1 (cap - (n - 1))]).run Tryz.prog W1 = .ok (.tuple #[]) (W1.setCells g ((n - 1) * 2) [.string ⟨#[]⟩, .int .i64 0]) := fun ty =>
  run_clear_rf W1 ty g ((n - 1) * 2) (cap - (n - 1)) (fun j hj => by rw [World.cell?]; simp only [hW1g]; simp [hC1l]; omega) (fun j hj => block_free hW1g)
 have hW2g := setCells_heap g 62 [.string ⟨#[]⟩, .int .i64 0] ((n - 1) * 2) C1.toArray W1 hW1g (by simp [hC1l]; omega)
 have hu2 : Upd (fun b => b = g) w (W1.setCells g ((n - 1) * 2) [.string ⟨#[]⟩, .int .i64 0]) := hu1.trans (setCells_frame g _ _ _) (fun _ _ h => h)
 obtain ⟨W2, hW2⟩ : ∃ W2, W2 = W1.setCells g ((n - 1) * 2) [.string ⟨#[]⟩, .int .i64 0] := ⟨_, rfl⟩
 rw [← hW2] at hW2g hu2 hclr
 have hCend : (List.take ((n - 1) * 2) C1 ++ ([.string ⟨#[]⟩, .int .i64 0] : List Value) ++ List.drop ((n - 1) * 2 + 2) C1).take ((n - 1) * 2) = flat (fun j => rfCells (rf (without l i) j)) (n - 1) := by
  rw [List.append_assoc, List.take_append_of_le_length (by rw [List.length_take]; omega), List.take_take, Nat.min_self]
  have e1 : C1.take ((n - 1) * 2) = xs.take (i * 2) ++ xs.drop ((i + 1) * 2) := by
   rw [hC1]
   have hti : cur.toList.take (i * 2) = xs.take (i * 2) := by rw [← hxs, List.take_take, Nat.min_eq_left (by omega)]
   have hl2 : (cur.toList.take (i * 2) ++ news).length = (n - 1) * 2 := by rw [List.length_append, List.length_take, hcurl, hnl]; omega
   rw [← hl2, List.take_left, hti, hnews]
  rw [e1]
  obtain ⟨k, hk⟩ : ∃ k, n = i + (1 + k) := ⟨n - i - 1, by omega⟩
  have hfl : (flat (fun i => rfCells (rf l i)) i).length = i * 2 := flat_length fun _ _ => rfl
  have hfl2 : (flat (fun j => rfCells (rf l j)) (i + 1)).length = (i + 1) * 2 := flat_length fun _ _ => rfl
  have a1 : xs.take (i * 2) = flat (fun j => rfCells (rf l j)) i := by
   rw [hx, hk, flat_add, ← hfl, List.take_left]
  have a2 : xs.drop ((i + 1) * 2) = flat (fun j => rfCells (rf l (i + 1 + j))) k := by
   rw [hx, show n = (i + 1) + k by omega, flat_add, ← hfl2, List.drop_left]
  rw [a1, a2, show n - 1 = i + k by omega, flat_add]
  congr 1
  ·exact flat_congr fun j hj => by rw [without_rf (by omega), if_pos hj]
  ·exact flat_congr fun j hj => by rw [without_rf (by omega), if_neg (by omega), show i + j + 1 = i + 1 + j by omega]
 have hres : OwnR B W2 (.slice (some ⟨g, 0, none⟩) (n - 1) cap) (without l i) ∧ Upd (fun b => (Value.slice (some ⟨g, 0, none⟩) n cap).ownBlock = some b) w W2 := by
  refine ⟨⟨⟨by rw [without_length (by omega), ← hn]; exact flat_length fun _ _ => rfl, .inr ⟨g, cap, _, by rw [without_length (by omega), ← hn], hBg, hW2g, by rw [without_length (by omega)]; omega, hcm, ?_, ?_⟩⟩, fun r hr => ?_⟩, hu2.weaken (fun b hb e => by subst e; rfl)⟩
  ·simp only [List.size_toArray, List.length_append, List.length_take, List.length_drop, hC1l, List.length_cons, List.length_nil]; omega
  ·rw [without_length (by omega), ← hn]
   have := hCend
   simpa using this
  ·unfold without at hr
   rcases List.mem_append.1 hr with hr | hr
   ·exact hok r (List.mem_of_mem_take hr)
   ·exact hok r (List.mem_of_mem_drop hr)
 have Hres := Lib.hid hres
 have hW : Hid (W1 = w.drew.setCells g (i * 2) news) := hW1
 have HW2 : Hid (W2 = W1.setCells g ((n - 1) * 2) [.string ⟨#[]⟩, .int .i64 0]) := hW2
 have s1 : Hid (news.length = (n - (i + 1)) * 2) := hnl
 have s2 := Lib.hid hn1
 have s3 : Hid (∀ t, t < news.length → (w.drew.cell? ⟨g, 0 + i * 2 + t, none⟩).isSome = true ∧ w.drew.frozen? ⟨g, 0 + i * 2 + t, none⟩ = false) := fun t ht => by
  rw [hnl] at ht
  exact ⟨by rw [Nat.zero_add]; exact hcl _ (by omega), hfr _⟩
 have hm63 : cap ≤ 9223372036854775807 := by unfold maxLen at hcm; omega
 have hne : ¬ ((i : Int) = (i : Int) + 1) := by omega
 have hw1 := wrap_in (n := (i : Int) + 1) (by omega)
 have hi1 : (i : Int) + 1 ≤ (n : Int) := by omega
 have hi2 : (0 : Int) ≤ (i : Int) := by omega
 have hi3 : (i : Int) ≤ (i : Int) + 1 := by omega
 have hi4 : (0 : Int) ≤ (i : Int) + 1 := by omega
 have hi5 : (i : Int) ≤ (cap : Int) := by omega
 have hi6 : (n : Int) ≤ (cap : Int) := by omega
 have htn : ((i : Int) + 1).toNat = i + 1 := by omega
 have hmm : i + (n - (i + 1)) = n - 1 := by omega
 have hm1 : n - (n - 1) = 1 := by omega
 have hm2 : ¬ (cap = n - 1) := by omega
 have hm3 : ((n - 1 : Nat) : Int) ≤ (n : Int) := by omega
 have hm4 : ¬ (cap = i + 1 ∧ False) := by simp
 have hroom : i + (n - (i + 1)) ≤ cap := by omega
 have HN := Lib.hid hn
 clear hn hW1 hW2 hCend hW2g hu2 hu1 hW1g hC1l hC1 hcl hfr hgx hx1 hn1 hnl hnews hx hxs hxl hg hcs hcurl hcm hz0 hz2 hok hres
 go_enter Tryz.func237, Tryz.ntmps237
 go_wp2_with fail
 go_region_law (refine step_append_room rfl (.tmp 22) (.tmp 25) 23 rfl 62 i0 2 Tryz.underlying23 hi0 hz1 g 0 i cap (by simp [Act.eval, Act.put]) A (n - (i + 1)) (cap - (i + 1)) news (by simp [Act.eval, Act.put, hA]) s1.out hsrc.out s2.out hroom s3.out ?_; rw [Nat.zero_add, ← hW.out])
 go_wp2
 go_ret
 exact ⟨_, rfl, Hres.out.1, Hres.out.2, rfl⟩
end Go.Proofs.YtjdgpgfiomnjkaaGreatDoor
namespace Go.Proofs.YtjdgpgfiomnjkaaGreatDoor
open Go.RowKit
set_option linter.unusedVariables false
set_option linter.unusedSimpArgs false
set_option linter.unusedSectionVars false
variable [Ghost]
theorem compare_lt : ∀ (a b : List UInt8), Lib.compareBytes a b < 0 ↔ Op.bytesLess a b = true
 | [], [] => by simp [Lib.compareBytes, Op.bytesLess]
 | [], _ :: _ => by simp [Lib.compareBytes, Op.bytesLess]
 | _ :: _, [] => by simp [Lib.compareBytes, Op.bytesLess]
 | a :: xs, b :: ys => by
  have ih := compare_lt xs ys
  simp only [Lib.compareBytes, Op.bytesLess, Bool.or_eq_true, decide_eq_true_eq, Bool.and_eq_true, beq_iff_eq]
  by_cases h1 : a < b
  ·simp [h1]
  ·by_cases h2 : b < a
   ·have h3 : ¬ a = b := by rintro rfl; exact h1 h2
    simp [h1, h2, h3]
   ·have h3 : a = b := by
     apply UInt8.toNat_inj.1
     simp only [UInt8.lt_iff_toNat_lt] at *; omega
    simp [h3, ih]
def cmpS (a b : ByteArray) : Int := Lib.compareBytes a.data.toList b.data.toList
theorem cmpS_lt (a b : ByteArray) : cmpS a b < 0 ↔ strLt a b = true := by
 unfold cmpS strLt; rw [compare_lt, ByteArray.toList_eq, ByteArray.toList_eq]
theorem strLt_ntrans {a b c : ByteArray} (h1 : strLt a b = false) (h2 : strLt b c = false) : strLt a c = false := by
 cases h : strLt a c
 ·rfl
 ·by_cases e : a = b
  ·subst e; rw [h] at h2; cases h2
  ·have h3 : strLt b a = true := by
    cases e3 : strLt b a
    ·exact absurd (strLt_tri h1 e3) e
    ·rfl
   have h4 := less_trans _ _ _ h3 h
   unfold strLt at h2
   rw [h2] at h4; cases h4
end Go.Proofs.YtjdgpgfiomnjkaaGreatDoor
