
/- WalkA: Walk1, Walk2, Walk3, Gath, Walk4, Walk5. -/
import Derived.Test.YtjdgpgfiomnjkaaGreatDoorQ4
import Derived.Test.YtjdgpgfiomnjkaaGreatDoorQ0
import Derived.Test.YtjdgpgfiomnjkaaGreatDoorQ2
import Derived.Deep.DeepCutAuto
namespace Go.Proofs.YtjdgpgfiomnjkaaGreatDoor
open Go.RowKit
set_option linter.unusedVariables false
set_option linter.unusedSimpArgs false
set_option linter.unusedSectionVars false
variable [Ghost]
def RetInts (w w' : World) (e : Ending) (xs : List Int) : Prop := ∃ v, e = .returned v ∧ IntsV (fun b => w.heap.size ≤ b) w' v xs ∧ Below w.heap.size w w'
def RetObj (w w' : World) (e : Ending) (o : Obj) : Prop := ∃ lv, e = .returned (.agg #[.int .i64 o.id, .int .i64 o.kind, lv, .string o.text]) ∧ ObjIs (fun b => w.heap.size ≤ b) w' o lv ∧ Below w.heap.size w w'
theorem own_ints' {x : World} {B N : Nat} {v : Value} {zs : List Int} (h : x.ownsRow B 3 1 v N (zs.map (Value.int .i64))) (hN : N = zs.length) (hi : ∀ z ∈ zs, I64 z) (hb : N * 8 ≤ 140737488351232) : IntsV (fun b => B ≤ b) x v zs := by
 subst hN
 refine ⟨own_sl h (fun g hg => (h.lt g hg).1) (by omega) (fun i hn j u hu => ?_), hi⟩
 match j, hu with
 | 0, hu =>
  simp at hu; subst hu
  simp [nth_lt hn, hn]
theorem clone_append {w : World} {xs : List Int} {lv : Value} {S : Nat → Prop} (ty : TypeId) (hy : IntsV S w lv xs) :
  ∃ v' x', (Builtin.append_ #[44, 44] ty #[.slice (some ⟨w.heap.size, 0, none⟩) 0 0, lv]).run Tryz.prog (w.alloc (.cells #[] 3)) = .ok v' x' ∧ (∃ a n c, v' = .slice a n c) ∧
   IntsV (fun b => w.heap.size ≤ b) x' v' xs ∧ Below w.heap.size w x' := by
 have hown := own_empty w 3 w.heap.size (Nat.le_refl _)
 have hlen : xs.length * 8 ≤ 140737488351232 := by obtain ⟨⟨_, _, _, _, _, h, _⟩, _⟩ := hy; exact h
 obtain ⟨i0, hi, hz0, hz1, hz2⟩ := info_parts Tryz.infoInt
 have hy' := hy.below ((Below.refl _ _).alloc (Nat.le_refl _) (.cells #[] 3))
 obtain ⟨a, n, cap, HN, rfl, h1, h2, h3, h4⟩ := hy'.open
 have hn : n = xs.length := HN.out
 subst hn
 have hB1 : Below w.heap.size w (w.alloc (.cells #[] 3)) := (Below.refl _ _).alloc (Nat.le_refl _) _
 by_cases h0 : xs.length = 0
 ·have hnil : xs = [] := List.length_eq_zero_iff.1 h0
  subst hnil
  refine ⟨.slice (some ⟨w.heap.size, 0, none⟩) 0 0, w.alloc (.cells #[] 3), ?_, ⟨_, _, _, rfl⟩, IntsV.nil _ _ _ _ (by omega), hB1⟩
  exact run_append_nothing _ 44 44 ty 3 i0 Tryz.underlying44 hi (some ⟨w.heap.size, 0, none⟩) 0 0 (Nat.le_refl _) _
   ⟨.inl ⟨_, Tryz.underlying44⟩, fun w' => by simp [Builtin.lenOf], by cases a <;> simp [Builtin.firstCells] <;> rfl, by cases a <;> simp [Builtin.firstCells] <;> rfl, by simp, by simp⟩
 ·obtain ⟨b, off, rfl, _, hc⟩ := h4 (by omega)
  obtain ⟨g', c', x', hr, ho, hg, _, _⟩ := run_append_lies (P := Tryz.prog) (w.alloc (.cells #[] 3)) 44 ty w.heap.size 3 i0 _ 1 8 Tryz.underlying44 hi hz0 hz1 hz2 rfl (by omega) _ 0 _ hown ⟨b, off, none⟩ xs.length cap (xs.map (Value.int .i64)) (by simp)
   (fun j u hu => by
    rw [List.getElem?_map] at hu
    by_cases hj : j < xs.length
    ·rw [List.getElem?_eq_getElem hj] at hu
     simp at hu; subst hu
     have := hc j _ hj (Below.refl _ _)
     rw [nth_lt hj] at this
     rw [show (⟨b, off, none⟩ : Addr).add j = ⟨b, off + j, none⟩ by unfold Addr.add; split <;> simp_all]
     exact this
    ·rw [List.getElem?_eq_none (by omega)] at hu; cases hu)
   (by intro u hu; obtain ⟨k, _, rfl⟩ := List.mem_map.1 hu; rfl) (by omega) (by unfold maxLen; omega) (by omega) (by simp) _ rfl
  refine ⟨_, x', hr, ⟨_, _, _, rfl⟩, own_ints' (by simpa using ho) (by omega) hy.2 (by omega), ?_⟩
  exact Below.grown hB1 hg (by simp) (fun k hk => (hown.lt k hk).1)
theorem wpList_append_run {P : Program} {ops : Array Oper} {rest : List Oper} {o : Oper} {a : Act} {w w' : World} {Q : Exit → Act → World → Prop} (hgd : o.guard = none) (s x : Operand) (t : TypeId)
  (ho : o.op = .call { callee := .builtin .append, args := #[s, x], argTypes := #[t, t] }) (v u r : Value) (hs : a.eval s = v) (hx : a.eval x = u)
  (hr : (Builtin.append_ #[t, t] o.type #[v, u]).run P w = .ok r w') (h : wpList P ops Q rest (a.put o.dst r) w') : wpList P ops Q (o :: rest) a w := by
 refine wpList_plain hgd fun K hK => ?_
 exact wp_append_run s x t ho v u r hs hx hr (hK _ _ h)
set_option maxRecDepth 100000 in
set_option maxHeartbeats 1000000 in
theorem clone_any (xs : List Int) (v : Value) (S : Nat → Prop) (w : World) (h : IntsV S w v xs) : Calls Tryz.prog 149 #[v] w fun e w' => RetInts w w' e xs := by
 have hq := fun (w : World) (a : Option Addr) (n c : Nat) => Lib.run_eql_slice_nil (P := Tryz.prog) w 44 3 a n c 0 0 Tryz.underlying44
 have h' := h
 obtain ⟨a, n, cap, HN, rfl, h1, h2, h3, h4⟩ := h.open
 cases a with
 | none =>
  have hn : n = 0 := by
   rcases Nat.eq_zero_or_pos n with e | e
   ·exact e
   ·obtain ⟨b, off, e, _⟩ := h4 e; cases e
  subst hn
  have hnil : xs = [] := List.length_eq_zero_iff.1 HN.out.symm
  subst hnil
  clear h' h4 HN h
  go_enter Tryz.func149, Tryz.ntmps149
  go_wp2_with fail
  go_ret
  exact ⟨_, rfl, IntsV.nil _ _ _ _ (by omega), Below.refl _ _⟩
 | some p =>
  obtain ⟨v', x', hr, ⟨a', n', c', rfl⟩, hv, hb⟩ := clone_append 44 h'
  have Hv := Lib.hid hv
  have Hb := Lib.hid hb
  clear hv hb h4 h h'
  go_enter Tryz.func149, Tryz.ntmps149
  go_wp2_with (at_builtin; refine wpList_append_run rfl _ _ 44 rfl _ _ _ rfl rfl hr ?_)
  go_ret
  exact ⟨_, rfl, Hv.out, Hb.out⟩
set_option maxRecDepth 100000 in
set_option maxHeartbeats 1000000 in
theorem own_any (o : Obj) (lv : Value) (S : Nat → Prop) (w : World) (ho : ObjIs S w o lv) :
  Calls Tryz.prog 87 #[.agg #[.int .i64 o.id, .int .i64 o.kind, lv, .string o.text]] w fun e w' => RetObj w w' e o := by
 obtain ⟨⟨p, c⟩, rfl⟩ := ho.1.shape
 obtain ⟨w0, hw0⟩ : ∃ w0 : World, w0 = (w.alloc (.cells #[.int .i64 o.id, .int .i64 o.kind, .slice p o.links.length c, .string o.text] 46)).alloc (.cells #[.int .i64 0, .int .i64 0, .slice none 0 0, .string ⟨#[]⟩] 46) := ⟨_, rfl⟩
 have h1 : w0.heap[w.heap.size]? = some (.cells #[.int .i64 o.id, .int .i64 o.kind, .slice p o.links.length c, .string o.text] 46 (0, 0)) := by
  rw [hw0, Below.heap_alloc _ _ _ (by simp)]; exact heap_alloc_new w _
 have h2 : w0.heap[w.heap.size + 1]? = some (.cells #[.int .i64 0, .int .i64 0, .slice none 0 0, .string ⟨#[]⟩] 46 (0, 0)) := by
  rw [hw0]; exact heap_new _ _ _ (by simp)
 have hb : Below w.heap.size w w0 := by rw [hw0]; exact ((Below.refl _ _).alloc (Nat.le_refl _) _).alloc (by simp) _
 have hz : w0.heap.size = w.heap.size + 2 := by rw [hw0]; simp
 have c2 := block_cell (j := 2) h1 rfl
 go_enter Tryz.func87, Tryz.ntmps87
 go_wp2_with fail
 rw [← hw0]
 have Hw0 := Lib.hid hw0; clear hw0
 refine (clone_any o.links _ S _ (ho.1.below hb)).mono ?_
 rintro e w1 ⟨v1, rfl, hv1, hb1⟩
 obtain ⟨⟨p1, c1⟩, rfl⟩ := hv1.shape
 have k1 := (hb1.block _ (lt_of_block h1)).trans h1
 have k2 := (hb1.block _ (lt_of_block h2)).trans h2
 have d0 := block_cell (j := 0) k1 rfl
 have d1 := block_cell (j := 1) k1 rfl
 have d2 := block_cell (j := 2) k1 rfl
 have d3 := block_cell (j := 3) k1 rfl
 have f2 := block_free (j := 2) k1
 have e0 := block_cell (j := 0) k2 rfl
 have e1 := block_cell (j := 1) k2 rfl
 have e2 := block_cell (j := 2) k2 rfl
 have e3 := block_cell (j := 3) k2 rfl
 have g0 := block_free (j := 0) k2
 have g1 := block_free (j := 1) k2
 have g2 := block_free (j := 2) k2
 have g3 := block_free (j := 3) k2
 have hs2 := (Below.heap_setCell w1 ⟨w.heap.size, 2, none⟩ (.slice p1 o.links.length c1) (w.heap.size + 1) (by simp)).trans k2
 have hs4 := set4_is (v0 := .int .i64 o.id) (v1 := .int .i64 o.kind) (v2 := .slice p1 o.links.length c1) (v3 := .string o.text) hs2
 have hu : Upd (fun b => b = w.heap.size ∨ b = w.heap.size + 1) w1 (set4 (w.heap.size + 1) (.int .i64 o.id) (.int .i64 o.kind) (.slice p1 o.links.length c1) (.string o.text) (w1.setCell ⟨w.heap.size, 2, none⟩ (.slice p1 o.links.length c1))) :=
  (Upd.setCell (Upd.refl _ _) (fun _ => .inl rfl) _).trans (set4_upd _ _ _ _ _ _) (fun x _ h => .inr h)
 have HO := Lib.hid (show ObjIs (fun b => w.heap.size ≤ b) _ o (.slice p1 o.links.length c1) from ⟨(hv1.upd hu (fun b hb h => by omega)).weaken (fun b hb => by omega), ho.2⟩)
 have HB := Lib.hid ((hb.trans (hb1.mono (by omega))).trans (hu.below (B := w.heap.size) (by have := hb1.size; omega) (fun b hb => by omega)))
 have Hs4 := Lib.hid hs4
 clear hs2 hs4 hu k1 k2 h1 h2 hb hv1 hb1
 go_wp2_with fail
 refine bodyPost_ret (w := set4 (w.heap.size + 1) (.int .i64 o.id) (.int .i64 o.kind) (.slice p1 o.links.length c1) (.string o.text) (w1.setCell ⟨w.heap.size, 2, none⟩ (.slice p1 o.links.length c1))) (v := .agg #[.int .i64 o.id, .int .i64 o.kind, .slice p1 o.links.length c1, .string o.text]) ?_ rfl ?_
 ·have x0 := block_cell (j := 0) Hs4.out rfl
  have x1 := block_cell (j := 1) Hs4.out rfl
  have x2 := block_cell (j := 2) Hs4.out rfl
  have x3 := block_cell (j := 3) Hs4.out rfl
  clear HO HB Hs4 d0 d1 d2 d3 e0 e1 e2 e3
  generalize set4 (w.heap.size + 1) (.int .i64 o.id) (.int .i64 o.kind) (.slice p1 o.links.length c1) (.string o.text) (w1.setCell ⟨w.heap.size, 2, none⟩ (.slice p1 o.links.length c1)) = wf at *
  simp [results, Tryz.results87, go_sem, *]
 ·exact ⟨_, rfl, HO.out, HB.out⟩
def Follows (g : Nat) (par : Bool) : Prop := ∀ (o : Obj) (lv : Value) (S : Nat → Prop) (w : World), ObjIs S w o lv → (par = true → 0 < o.links.length) →
 Calls Tryz.prog g #[.agg #[.int .i64 o.id, .int .i64 o.kind, lv, .string o.text]] w fun e w' => ∃ v, e = .returned v ∧ IntsV S w' v (follow o par) ∧ Below w.heap.size w w'
set_option maxHeartbeats 400000 in
theorem all_any : Follows 86 false := by
 intro o lv S w ho _
 obtain ⟨⟨p, c⟩, rfl⟩ := ho.1.shape
 obtain ⟨R, hR, hR1, x0, x1, x2, x3⟩ := cls_box4 w (.int .i64 o.id) (.int .i64 o.kind) (.slice p o.links.length c) (.string o.text) 46
 have hbw := hR.below _ hR1
 have HO := Lib.hid (ho.1.below hbw)
 go_enter Tryz.func86, Tryz.ntmps86
 go_wp2_with fail
 go_ret
 exact ⟨_, rfl, HO.out, hbw⟩
theorem ints_drop {S : Nat → Prop} {w : World} {a : Option Addr} {n cap : Nat} {xs : List Int} (h : IntsV S w (.slice a n cap) xs) (hn : 0 < xs.length) :
  ∃ b off, a = some ⟨b, off, none⟩ ∧ n = xs.length ∧ IntsV S w (.slice (some ⟨b, off + 1, none⟩) (n - 1) (cap - 1)) (xs.drop 1) := by
 obtain ⟨⟨a', cap', hv, h1, h2, h3, h4⟩, h5⟩ := h
 cases hv
 obtain ⟨b, off, ha, hS, hc⟩ := h4 hn
 have hl : (xs.drop 1).length = xs.length - 1 := by simp
 refine ⟨b, off, ha, rfl, ⟨⟨_, cap - 1, by rw [hl], by omega, by omega, by omega, fun hp => ⟨b, off + 1, rfl, ⟨hS.1, hS.2.sub (by omega) (by rw [hl]; omega)⟩, fun i hi j u hu => ?_⟩⟩, fun x hx => h5 x (List.mem_of_mem_drop hx)⟩⟩
 have hx : nth (xs.drop 1) i = nth xs (i + 1) := by
  unfold nth at_; simp only [List.getD_eq_getElem?_getD, List.getElem?_drop]; rw [Nat.add_comm]
 have hu' : [Value.int .i64 (nth (xs.drop 1) i)][j]? = some u := hu
 rw [hx] at hu'
 have := hc (i + 1) (by omega) j u hu'
 rw [show off + 1 + i * 1 + j = off + (i + 1) * 1 + j by omega]; exact this
set_option maxHeartbeats 400000 in
theorem parents_any : Follows 175 true := by
 intro o lv S w ho hl
 have hl := hl rfl
 obtain ⟨⟨p, c⟩, rfl⟩ := ho.1.shape
 have hcap : o.links.length ≤ c := by obtain ⟨⟨_, _, hv, h, _⟩, _⟩ := ho.1; cases hv; exact h
 have hcap2 : c ≤ 9223372036854775807 := by obtain ⟨⟨_, _, hv, _, h, _⟩, _⟩ := ho.1; cases hv; exact h
 obtain ⟨b, off, hp, _, hd⟩ := ints_drop ho.1 hl
 simp only at hp
 subst hp
 obtain ⟨R, hR, hR1, x0, x1, x2, x3⟩ := cls_box4 w (.int .i64 o.id) (.int .i64 o.kind) (.slice (some ⟨b, off, none⟩) o.links.length c) (.string o.text) 46
 have hbw := hR.below _ hR1
 have HO := Lib.hid (hd.below hbw)
 clear hd
 generalize hn : o.links.length = n at *
 have Hn := Lib.hid hn; clear hn
 have hi1 : (1 : Int) ≤ (n : Int) := by omega
 by_cases hc1 : c = 1
 ·subst hc1
  have hn1 : n = 1 := by omega
  subst hn1
  have HN := Lib.hid (show follow o true = [] from List.drop_eq_nil_of_le (by rw [Hn.out]; exact Nat.le_refl _))
  go_enter Tryz.func175, Tryz.ntmps175
  go_wp2_with fail
  go_ret
  exact ⟨_, rfl, by rw [HN.out]; exact IntsV.nil _ _ _ _ (by omega), hbw⟩
 ·go_enter Tryz.func175, Tryz.ntmps175
  go_wp2_with fail
  go_ret
  exact ⟨_, rfl, HO.out, hbw⟩
end Go.Proofs.YtjdgpgfiomnjkaaGreatDoor
namespace Go.Proofs.YtjdgpgfiomnjkaaGreatDoor
open Go.RowKit
set_option linter.unusedVariables false
set_option linter.unusedSimpArgs false
set_option linter.unusedSectionVars false
variable [Ghost]
def markRow (n : Nat) (M : Nat → Bool) : Array Value := ((List.range n).map fun j => Value.bool (M j)).toArray
theorem markRow_get {n : Nat} {M : Nat → Bool} {j : Nat} (h : j < n) : (markRow n M)[j]? = some (.bool (M j)) := by simp [markRow, h]
theorem markRow_set {n : Nat} {M : Nat → Bool} {i : Nat} (h : i < n) : (markRow n M).setIfInBounds i (.bool true) = markRow n (fun j => M j || j == i) := by
 apply Array.ext_getElem?
 intro j
 rw [Array.getElem?_setIfInBounds]
 by_cases hj : i = j
 ·subst hj; simp [markRow, h]
 ·by_cases hn : j < n
  ·rw [if_neg hj, markRow_get hn, markRow_get hn]
   have : (j == i) = false := by simp; omega
   simp [this]
  ·have e1 : (markRow n M)[j]? = none := by simp [markRow]; omega
   have e2 : (markRow n (fun j => M j || j == i))[j]? = none := by simp [markRow]; omega
   rw [if_neg hj, e1, e2]
def WalkerAt (bw bm n : Nat) (lv : Value) (M : Nat → Bool) (w : World) : Prop :=
 w.heap[bw]? = some (.cells #[lv, .slice (some ⟨bm, 0, none⟩) n n] 128 (0, 0)) ∧ w.heap[bm]? = some (.cells (markRow n M) 4 (0, 0))
theorem WalkerAt.below {bw bm n : Nat} {lv : Value} {M : Nat → Bool} {w w' : World} (h : WalkerAt bw bm n lv M w) (hb : Below w.heap.size w w') : WalkerAt bw bm n lv M w' :=
 ⟨(hb.block _ (lt_of_block h.1)).trans h.1, (hb.block _ (lt_of_block h.2)).trans h.2⟩
def VisitEnd (bw bm : Nat) (lv : Value) (l : List Obj) (par : Bool) (i : Nat) (M : Nat → Bool) (w : World) (e : Ending) (w' : World) : Prop :=
 e = .returned (.tuple #[]) ∧ ∃ M', WalkerAt bw bm l.length lv M' w' ∧ (∀ j, j < l.length → (M' j = true ↔ M j = true ∨ Rch l par i j)) ∧ Upd (fun b => b = bm) w w'
def Leads (l : List Obj) (par : Bool) (i k c : Nat) : Prop := c < i ∧ (obj l c).id = nth (follow (obj l i) par) k ∧ edgeB l par i c = true
theorem Right.leads {l : List Obj} (h : Right l) {par : Bool} {i k : Nat} (hi : i < l.length) (hk : k < (follow (obj l i) par).length) : ∃ c, Leads l par i k c := by
 have hm : nth (follow (obj l i) par) k ∈ follow (obj l i) par := by rw [nth_lt hk]; exact List.getElem_mem hk
 obtain ⟨k', hk', e, _⟩ := follow_mem hm
 obtain ⟨c, hc, hid, _⟩ := h.linked hi hk'
 refine ⟨c, hc, by rw [e]; exact hid, ?_⟩
 simp only [edgeB, Bool.and_eq_true, decide_eq_true_eq, List.any_eq_true, beq_iff_eq]
 exact ⟨by omega, _, hm, by rw [e]; exact hid.symm⟩
theorem Right.leads_all {l : List Obj} (h : Right l) {par : Bool} {i j : Nat} (hi : i < l.length) : Rch l par i j ↔ j = i ∨ ∃ k c, k < (follow (obj l i) par).length ∧ Leads l par i k c ∧ Rch l par c j := by
 constructor
 ·intro hr
  cases hr with
  | refl => exact .inl rfl
  | step e hr =>
   rename_i c
   have hci := h.edge_lt hi e
   have e' := e
   simp only [edgeB, Bool.and_eq_true, decide_eq_true_eq, List.any_eq_true, beq_iff_eq] at e'
   obtain ⟨hc, x, hx, hxe⟩ := e'
   obtain ⟨k, hk, rfl⟩ := List.getElem_of_mem hx
   exact .inr ⟨k, c, hk, ⟨hci, by rw [nth_lt hk]; exact hxe.symm, e⟩, hr⟩
 ·rintro (rfl | ⟨k, c, hk, ⟨_, _, e⟩, hr⟩)
  ·exact .refl _
  ·exact .step e hr
def MetTo (l : List Obj) (par : Bool) (i k : Nat) (M Mk : Nat → Bool) : Prop :=
 ∀ j, j < l.length → (Mk j = true ↔ M j = true ∨ j = i ∨ ∃ k' c, k' < k ∧ Leads l par i k' c ∧ Rch l par c j)
def ClosedTo (l : List Obj) (par : Bool) (i : Nat) (M : Nat → Bool) : Prop := ∀ a b, a ≤ i → a < l.length → M a = true → edgeB l par a b = true → M b = true
theorem closed_rch {l : List Obj} (h : Right l) {par : Bool} {i j : Nat} {M : Nat → Bool} (hi : i < l.length) (hc : ClosedTo l par i M) (hM : M i = true) (hr : Rch l par i j) : M j = true := by
 have key : ∀ a b, Rch l par a b → a ≤ i → M a = true → M b = true := by
  intro a b hab
  induction hab with
  | refl => exact fun _ h => h
  | step e _ ih =>
   intro ha hMa
   have := h.edge_lt (by omega) e
   exact ih (by omega) (hc _ _ ha (by omega) hMa e)
 exact key i j hr (Nat.le_refl _) hM
theorem metTo_zero (l : List Obj) (par : Bool) (i : Nat) (M : Nat → Bool) : MetTo l par i 0 M (fun j => M j || j == i) := fun j hj => by
 simp
theorem metTo_closed {l : List Obj} (h : Right l) {par : Bool} {i k c : Nat} {M Mk : Nat → Bool} (hi : i < l.length) (hc : ClosedTo l par i M) (hm : MetTo l par i k M Mk) (hci : c < i) : ClosedTo l par c Mk := by
 intro a b hac ha hMa e
 have hb := h.edge_lt ha e
 rcases (hm a ha).1 hMa with h1 | h1 | ⟨k', c', h1, h2, h3⟩
 ·exact (hm b (by omega)).2 (.inl (hc a b (by omega) ha h1 e))
 ·omega
 ·exact (hm b (by omega)).2 (.inr (.inr ⟨k', c', h1, h2, h3.snoc e⟩))
theorem metTo_next {l : List Obj} {par : Bool} {i k c : Nat} {M Mk Mk' : Nat → Bool} (hR : Right l) (hi : i < l.length) (hm : MetTo l par i k M Mk) (hl : Leads l par i k c) (hn : ∀ j, j < l.length → (Mk' j = true ↔ Mk j = true ∨ Rch l par c j)) : MetTo l par i (k + 1) M Mk' := by
 intro j hj
 rw [hn j hj, hm j hj]
 constructor
 ·rintro ((h1 | h1 | ⟨k', c', h1, h2, h3⟩) | h1)
  ·exact .inl h1
  ·exact .inr (.inl h1)
  ·exact .inr (.inr ⟨k', c', by omega, h2, h3⟩)
  ·exact .inr (.inr ⟨k, c, by omega, hl, h1⟩)
 ·rintro (h1 | h1 | ⟨k', c', h1, h2, h3⟩)
  ·exact .inl (.inl h1)
  ·exact .inl (.inr (.inl h1))
  ·by_cases e : k' = k
   ·subst e
    have := hR.rising.inj (show c' < l.length by have := h2.1; omega) (show c < l.length by have := hl.1; omega) (h2.2.1.trans hl.2.1.symm)
    subst this
    exact .inr h3
   ·exact .inl (.inr (.inr ⟨k', c', by omega, h2, h3⟩))
theorem metTo_end {l : List Obj} (h : Right l) {par : Bool} {i k : Nat} {M Mk : Nat → Bool} (hi : i < l.length) (hk : k = (follow (obj l i) par).length) (hm : MetTo l par i k M Mk) : ∀ j, j < l.length → (Mk j = true ↔ M j = true ∨ Rch l par i j) := by
 intro j hj
 subst hk
 rw [hm j hj, h.leads_all hi]
set_option maxRecDepth 100000 in
set_option maxHeartbeats 4000000 in
theorem visit_any (l : List Obj) (par : Bool) (g : Nat) (hg : Follows g par) (eg : ∀ args w, (callFunc g args).run Tryz.prog w = .ok (.enter g args) w) (hR : Right l) (S : Nat → Prop) (lv : Value) (bw bm : Nat) (hSm : ∀ b, S b → ¬ b = bm) (hne : bw ≠ bm) :
  ∀ i, i < l.length → (par = true → (obj l i).kind = 3) → ∀ (w : World) (M : Nat → Bool), StoreV S w lv l → WalkerAt bw bm l.length lv M w → ClosedTo l par i M →
   Calls Tryz.prog 148 #[.pointer (some ⟨bw, 0, none⟩), .int .i64 (obj l i).id, .func (.func g) #[] #[]] w (VisitEnd bw bm lv l par i M w) := by
 intro i
 induction i using Nat.strongRecOn with
 | ind i ih =>
 intro hi hpk w M hst hw hcl
 have hlo := hR.rising.lo_self hi
 have hat := hR.rising.isAt_self hi
 obtain ⟨a, n, cap, la, ln, lc, HN, hlv, h1, h2, h3, h4, h5⟩ := hst.open
 have Hst := Lib.hid hst
 have Hw := Lib.hid hw
 have Hat := Lib.hid (fun x (hx : Below w.heap.size w x) => by have := at_any l lv S (obj l i).id x (hst.below hx) hR.rising; rw [hlo, hat] at this; exact this)
 have HN1 := HN.out.1
 subst hlv
 have hin : i < n := by rw [HN1]; exact hi
 obtain ⟨b, off, rfl, hSb, k0, k1, k2, k3⟩ := h4 (by omega)
 have Hlen := Lib.hid HN1
 have Hi := Lib.hid hi
 have c0 := block_cell (j := 0) hw.1 rfl
 have c1 := block_cell (j := 1) hw.1 rfl
 rw [← HN1] at c1
 clear HN1 hlo hat hst hw h4 h5 k0 k1 k2 k3 hi
 have hi1 : (0 : Int) ≤ (i : Int) := by omega
 have hi2 : (i : Int) < (n : Int) := by omega
 go_enter Tryz.func148, Tryz.ntmps148
 go_wp2_with fail
 refine (Hat.out _ (Below.refl _ _)).mono ?_
 rintro e w2 ⟨rfl, hb2⟩
 have hw2 := Hw.out.below hb2
 have d0 := block_cell (j := 0) hw2.1 rfl
 have d1 := block_cell (j := 1) hw2.1 rfl
 have dm := block_cell (j := i) hw2.2 (markRow_get Hi.out)
 have fm := block_free (j := i) hw2.2
 rw [← Hlen.out] at d1
 have Hw2 := Lib.hid hw2
 clear hw2 c0 c1
 cases hM : M i
 ·rw [hM] at dm
  have Hpar := Lib.hid (show par = true → 0 < (obj l i).links.length from fun hp => by
   rcases Nat.eq_zero_or_pos (obj l i).links.length with e | e
   ·have := zero_law (hR.each i Hi.out) e
    rw [hpk hp] at this; exact absurd this (by decide)
   ·exact e)
  obtain ⟨w3, hw3⟩ : ∃ w3 : World, w3 = w2.setCell ⟨bm, i, none⟩ (.bool true) := ⟨_, rfl⟩
  have hu23 : Upd (fun b => b = bm) w2 w3 := by rw [hw3]; exact Upd.setCell (T := fun b => b = bm) (Upd.refl _ _) (fun _ => rfl) _
  have h31 : WalkerAt bw bm l.length (.slice (some ⟨b, off, none⟩) n cap) (fun j => M j || j == i) w3 := by
   refine ⟨hu23.blk Hw2.out.1 hne, ?_⟩
   rw [hw3, block_setCell Hw2.out.2, markRow_set Hi.out]
  have hst3 := (Hst.out.below hb2).upd hu23 hSm
  obtain ⟨a3, n3, cap3, la, ln, lc, HN3, e3, _, _, _, h43, h53⟩ := hst3.open
  cases e3
  obtain ⟨b3, off3, e3, _, k0, k1, k2, k3⟩ := h43 (by omega)
  cases e3
  have x0 := k0 i w3 hin (Below.refl _ _)
  have x1 := k1 i w3 hin (Below.refl _ _)
  have x2 := k2 i w3 hin (Below.refl _ _)
  have x3 := k3 i w3 hin (Below.refl _ _)
  have Ho := Lib.hid (h53 i hin)
  have y0 := block_cell (j := 0) h31.1 rfl
  have Hst3 := Lib.hid hst3
  have H31 := Lib.hid h31
  have Hu23 := Lib.hid hu23
  rw [hw3] at x0 x1 x2 x3 y0
  have Hw3 := Lib.hid hw3
  clear hw3 h31 hst3 hu23 k0 k1 k2 k3 h43 h53 HN3
  go_wp2_with fail
  rw [← Hw3.out]
  refine (hg (obj l i) _ S _ Ho.out Hpar.out).mono ?_
  rintro e w4 ⟨v4, rfl, hv4, hb4⟩
  obtain ⟨⟨p4, c4⟩, rfl⟩ := hv4.shape
  have Hv4 := Lib.hid hv4
  have H41 := Lib.hid (H31.out.below hb4)
  have HB4 := Lib.hid hb4
  have Hst4 := Lib.hid (Hst3.out.below hb4)
  clear x0 x1 x2 x3 y0 d0 d1 dm fm hb4 hv4
  generalize hm : (follow (obj l i) par).length = m at *
  have hm8 : m * 8 ≤ 140737488351232 := by obtain ⟨⟨_, _, hv, _, _, h, _⟩, _⟩ := Hv4.out; cases hv; exact h
  have Hm := Lib.hid hm; clear hm
  go_wp2_with fail
  go_loopw [42] (fun s wr => ∃ (k : Nat) (Mk : Nat → Bool), k ≤ m ∧ s = .int .i64 k ∧ Hid (WalkerAt bw bm l.length (.slice (some ⟨b, off, none⟩) n cap) Mk wr ∧ MetTo l par i k M Mk ∧ Upd (fun b => b = bm) w4 wr)) (fun s _ => m - (intOf s).toNat)
  case atStart => exact ⟨0, _, by omega, rfl, H41.out, metTo_zero l par i M, Upd.refl _ _⟩
  case round =>
   obtain ⟨k, Mk, hk, rfl, HK⟩ := hrel
   by_cases hkm : k < m
   ·have hkf : k < (follow (obj l i) par).length := by rw [Hm.out]; exact hkm
    obtain ⟨c, hL⟩ := hR.leads Hi.out hkf
    have hcall := ih c hL.1 (by have := hL.1; have := Hi.out; omega) (fun hp => by subst hp; exact hR.edge_kind Hi.out (hpk rfl) hL.2.2) wr Mk (Hst4.out.upd HK.out.2.2 hSm) HK.out.1 (metTo_closed hR Hi.out hcl HK.out.2.1 hL.1)
    rw [hL.2.1] at hcall
    have Hcall := Lib.hid hcall
    have HL := Lib.hid hL
    obtain ⟨a5, n5, c5, HN5, e5, _, _, _, h5⟩ := (Hv4.out.upd HK.out.2.2 hSm).open
    cases e5
    obtain ⟨b5, off5, rfl, _, hc5⟩ := h5 (by have := Hm.out; omega)
    have hcell := hc5 k wr (by have := Hm.out; omega) (Below.refl _ _)
    clear hcall hL hc5 h5 HN5
    go_wp2_with fail
    refine Hcall.out.mono ?_
    rintro e w5 ⟨rfl, M', hw5, hM', hu5⟩
    have HX := Lib.hid (show WalkerAt bw bm l.length (.slice (some ⟨b, off, none⟩) n cap) M' w5 ∧ MetTo l par i (k + 1) M M' ∧ Upd (fun b => b = bm) w4 w5 from
     ⟨hw5, metTo_next hR Hi.out HK.out.2.1 HL.out hM', HK.out.2.2.trans hu5 (fun _ _ h => h)⟩)
    clear hw5 hM' hu5
    go_wp2_with fail
    go_roundw
    case rel => exact ⟨k + 1, M', by omega, by go_num, HX⟩
    case measure => simp [intOf]; omega
   ·obtain rfl : k = m := by omega
    go_wp2_with fail
    go_end0
    refine ⟨rfl, Mk, HK.out.1, metTo_end hR Hi.out Hm.out.symm HK.out.2.1, ?_⟩
    have u1 : Upd (fun b => b = bm) w w2 := ⟨hb2.os, hb2.tape, hb2.output, hb2.size, fun b hb _ => hb2.block b hb⟩
    have u3 : Upd (fun b => b = bm) w3 w4 := ⟨HB4.out.os, HB4.out.tape, HB4.out.output, HB4.out.size, fun b hb _ => HB4.out.block b hb⟩
    exact ((u1.trans Hu23.out (fun _ _ h => h)).trans u3 (fun _ _ h => h)).trans HK.out.2.2 (fun _ _ h => h)
 ·rw [hM] at dm
  have HU := Lib.hid (hb2)
  go_wp2_with fail
  go_end0
  refine ⟨rfl, M, Hw2.out, fun j hj => ⟨.inl, ?_⟩, ⟨hb2.os, hb2.tape, hb2.output, hb2.size, fun b hb _ => hb2.block b hb⟩⟩
  rintro (h | h)
  ·exact h
  ·exact closed_rch hR Hi.out hcl hM h
end Go.Proofs.YtjdgpgfiomnjkaaGreatDoor
namespace Go.Proofs.YtjdgpgfiomnjkaaGreatDoor
open Go.RowKit
set_option linter.unusedVariables false
set_option linter.unusedSimpArgs false
set_option linter.unusedSectionVars false
variable [Ghost]
theorem ObjIs.lt {S : Nat → Prop} {w : World} {o : Obj} {lv : Value} (h : ObjIs S w o lv) : ObjIs (fun b => S b ∧ b < w.heap.size) w o lv := ⟨h.1.lt, h.2⟩
theorem StoreV.lt {S : Nat → Prop} {w : World} {v : Value} {l : List Obj} (h : StoreV S w v l) : StoreV (fun b => S b ∧ b < w.heap.size) w v l := by
 obtain ⟨lvs, ⟨a, cap, hv, h1, h2, h3, h4⟩, h5⟩ := h
 refine ⟨lvs, ⟨a, cap, hv, h1, h2, h3, fun hn => ?_⟩, fun i hi => (h5 i hi).lt⟩
 obtain ⟨b, off, ha, hS, hc⟩ := h4 hn
 exact ⟨b, off, ha, ⟨⟨hS.1, World.block_lt_of_cell? w _ (hc 0 hn 0 _ rfl)⟩, hS.2⟩, hc⟩
def TipsTo (l : List Obj) (par : Bool) (tips : List Int) (k : Nat) (M : Nat → Bool) : Prop :=
 ∀ j, j < l.length → (M j = true ↔ ∃ k' i, k' < k ∧ i < l.length ∧ (obj l i).id = nth tips k' ∧ Rch l par i j)
theorem tipsTo_closed {l : List Obj} (h : Right l) {par : Bool} {tips : List Int} {k i : Nat} {M : Nat → Bool} (hm : TipsTo l par tips k M) : ClosedTo l par i M := by
 intro a b _ ha hM e
 obtain ⟨k', i', h1, h2, h3, h4⟩ := (hm a ha).1 hM
 exact (hm b (by have := h.edge_lt ha e; omega)).2 ⟨k', i', h1, h2, h3, h4.snoc e⟩
theorem tipsTo_next {l : List Obj} (h : Right l) {par : Bool} {tips : List Int} {k i : Nat} {M M' : Nat → Bool} (hm : TipsTo l par tips k M) (hi : i < l.length) (hid : (obj l i).id = nth tips k) (hn : ∀ j, j < l.length → (M' j = true ↔ M j = true ∨ Rch l par i j)) : TipsTo l par tips (k + 1) M' := by
 intro j hj
 rw [hn j hj, hm j hj]
 constructor
 ·rintro (⟨k', i', h1, h2, h3, h4⟩ | h1)
  ·exact ⟨k', i', by omega, h2, h3, h4⟩
  ·exact ⟨k, i, by omega, hi, hid, h1⟩
 ·rintro ⟨k', i', h1, h2, h3, h4⟩
  by_cases e : k' = k
  ·subst e
   have := h.rising.inj h2 hi (h3.trans hid.symm)
   subst this; exact .inr h4
  ·exact .inl ⟨k', i', by omega, h2, h3, h4⟩
theorem tipsTo_end {l : List Obj} (h : Right l) {par : Bool} {tips : List Int} {M : Nat → Bool} (hm : TipsTo l par tips tips.length M) : ∀ j, j < l.length → M j = reachB l par tips j := by
 intro j hj
 rw [Bool.eq_iff_iff, hm j hj, reach_iff h hj]
 constructor
 ·rintro ⟨k, i, h1, h2, h3, h4⟩
  refine ⟨i, h2, ?_, h4⟩
  unfold tipB
  rw [List.any_eq_true]
  exact ⟨tips[k], List.getElem_mem h1, by rw [h3, nth_lt h1]; simp⟩
 ·rintro ⟨i, h2, h3, h4⟩
  unfold tipB at h3
  rw [List.any_eq_true] at h3
  obtain ⟨x, hx, hxe⟩ := h3
  obtain ⟨k, hk, rfl⟩ := List.getElem_of_mem hx
  exact ⟨k, i, hk, h2, by rw [nth_lt hk]; simpa using (by simpa using hxe : tips[k] = (obj l i).id).symm, h4⟩
def WalkEnd (lv : Value) (l : List Obj) (par : Bool) (tips : List Int) (w : World) (e : Ending) (w' : World) : Prop :=
 ∃ bw bm M, e = .returned (.pointer (some ⟨bw, 0, none⟩)) ∧ WalkerAt bw bm l.length lv M w' ∧ (∀ j, j < l.length → M j = reachB l par tips j) ∧ Below w.heap.size w w'
theorem Tryz.infoBool : (Tryz.prog.info? 4).map (fun i => (i.zero, i.size, i.bytes)) = some (some (.bool false), 1, 1) := by kernel_rfl
theorem make_marks (n : Nat) (hn : n ≤ 1000) (w : World) :
  (Instr.makeSlice 77 (.int .i64 (n : Int)) (.int .i64 (n : Int))).run Tryz.prog w = .ok (.slice (some ⟨w.heap.size, 0, none⟩) n n) (w.alloc (.cells (markRow n fun _ => false) 4)) := by
 obtain ⟨i0, hi, hz0, hz1, hz2⟩ := info_parts Tryz.infoBool
 have h := run_make (P := Tryz.prog) w 77 4 i0 _ Tryz.underlying77 hi hz0 .i64 .i64 (n : Int) (n : Int) (by omega) (by omega) (by rw [hz2]; omega) (by omega)
 rw [h, hz1]
 have e : madeCells (Value.bool false).cells ((n : Int).toNat * 1) = markRow n fun _ => false := by
  apply Array.ext
  ·simp [madeCells, markRow, Value.cells]
  ·intro j h1 h2
   simp [madeCells, markRow, Value.cells, Nat.mod_one]
 rw [e]; rfl
set_option maxRecDepth 100000 in
set_option maxHeartbeats 4000000 in
theorem walk_any (l : List Obj) (par : Bool) (tips : List Int) (g : Nat) (hg : Follows g par) (eg : ∀ args w, (callFunc g args).run Tryz.prog w = .ok (.enter g args) w) (hR : Right l) (S S' : Nat → Prop) (lv tv : Value) (w : World)
  (hst : StoreV S w lv l) (htv : IntsV S' w tv tips) (hpl : ∀ k, k < tips.length → ∃ i, i < l.length ∧ (obj l i).id = nth tips k ∧ (par = true → (obj l i).kind = 3)) :
  Calls Tryz.prog 85 #[lv, tv, .func (.func g) #[] #[]] w (WalkEnd lv l par tips w) := by
 obtain ⟨a, cap, n, hlv, hnl, hn56⟩ : ∃ a cap n, lv = .slice a n cap ∧ n = l.length ∧ n * 56 ≤ 140737488351232 := let ⟨_, ⟨a, cap, hv, _, _, h, _⟩, _⟩ := hst; ⟨a, cap, _, hv, rfl, h⟩
 subst hlv
 obtain ⟨ta, tn, tcap, HT, rfl, t1, t2, t3, t4⟩ := htv.open
 have Hst := Lib.hid hst.lt
 have Htv := Lib.hid htv.lt
 have Hnl := Lib.hid hnl
 have hn40 : n ≤ 40 := by rw [hnl]; exact hR.many
 have hmk := make_marks n (by omega)
 clear t4 hst htv hnl
 go_enter Tryz.func85, Tryz.ntmps85
 go_wp2_with fail
 obtain ⟨w0, hw0⟩ : ∃ w0 : World, w0 = (w.alloc (.cells (markRow n fun _ => false) 4)).alloc (.cells #[.slice a n cap, .slice (some ⟨w.heap.size, 0, none⟩) n n] 128) := ⟨_, rfl⟩
 have HA0 := Lib.hid (show WalkerAt (w.heap.size + 1) w.heap.size l.length (.slice a n cap) (fun _ => false) w0 by
  rw [hw0, ← Hnl.out]
  exact ⟨heap_new _ _ _ (by simp), by rw [Below.heap_alloc _ _ _ (by simp)]; exact heap_alloc_new w _⟩)
 have HB0 := Lib.hid (show Below w.heap.size w w0 by rw [hw0]; exact ((Below.refl _ _).alloc (Nat.le_refl _) _).alloc (by simp) _)
 have Hst0 := Lib.hid (Hst.out.below HB0.out)
 have Htv0 := Lib.hid (Htv.out.below HB0.out)
 rw [← hw0]
 clear hw0 hmk
 go_loopw [18] (fun s wr => ∃ (k : Nat) (Mk : Nat → Bool), k ≤ tn ∧ s = .int .i64 k ∧ Hid (WalkerAt (w.heap.size + 1) w.heap.size l.length (.slice a n cap) Mk wr ∧ TipsTo l par tips k Mk ∧ Upd (fun b => b = w.heap.size) w0 wr)) (fun s _ => tn - (intOf s).toNat)
 case atStart => exact ⟨0, _, by omega, rfl, HA0.out, fun j hj => ⟨(fun h => by cases h), fun ⟨k', i, h, _⟩ => absurd h (by omega)⟩, Upd.refl _ _⟩
 case round =>
  obtain ⟨k, Mk, hk, rfl, HK⟩ := hrel
  by_cases hkm : k < tn
  ·obtain ⟨i, hi, hid, hpk⟩ := hpl k (by have := HT.out; omega)
   have hcall := visit_any l par g hg eg hR _ (.slice a n cap) (w.heap.size + 1) w.heap.size (fun b hb => by have := hb.2; omega) (by omega) i hi hpk wr Mk (Hst0.out.upd HK.out.2.2 (fun b hb => by have := hb.2; omega)) HK.out.1 (tipsTo_closed hR HK.out.2.1)
   rw [hid] at hcall
   have Hcall := Lib.hid hcall
   have Hin := Lib.hid (show i < l.length ∧ (obj l i).id = nth tips k from ⟨hi, hid⟩)
   obtain ⟨a5, n5, c5, HN5, e5, _, _, _, h5⟩ := (Htv0.out.upd HK.out.2.2 (fun b hb => by have := hb.2; omega)).open
   cases e5
   obtain ⟨b5, off5, rfl, _, hc5⟩ := h5 (by omega)
   have hcell := hc5 k wr hkm (Below.refl _ _)
   clear hcall hid hi hpk hc5 h5 HN5
   go_wp2_with fail
   refine Hcall.out.mono ?_
   rintro e w5 ⟨rfl, M', hw5, hM', hu5⟩
   have HX := Lib.hid (show WalkerAt (w.heap.size + 1) w.heap.size l.length (.slice a n cap) M' w5 ∧ TipsTo l par tips (k + 1) M' ∧ Upd (fun b => b = w.heap.size) w0 w5 from
    ⟨hw5, tipsTo_next hR HK.out.2.1 Hin.out.1 Hin.out.2 hM', HK.out.2.2.trans hu5 (fun _ _ h => h)⟩)
   clear hw5 hM' hu5
   go_wp2_with fail
   go_roundw
   case rel => exact ⟨k + 1, M', by omega, by go_num, HX⟩
   case measure => simp [intOf]; omega
  ·obtain rfl : k = tn := by omega
   go_wp2_with fail
   go_ret
   have hm := HK.out.2.1
   rw [HT.out] at hm
   exact ⟨_, _, Mk, rfl, HK.out.1, tipsTo_end hR hm, HB0.out.trans (HK.out.2.2.below (by have := HB0.out.size; omega) (fun b hb => by omega))⟩
end Go.Proofs.YtjdgpgfiomnjkaaGreatDoor
namespace Go.Proofs.YtjdgpgfiomnjkaaGreatDoor
open Go.RowKit
set_option linter.unusedVariables false
set_option linter.unusedSimpArgs false
set_option linter.unusedSectionVars false
variable [Ghost]
theorem own_below {w w' : World} {base : Nat} {e : TypeId} {size : Nat} {v : Value} {n : Nat} {xs : List Value} (h : w.ownsRow base e size v n xs) (hb : Below w.heap.size w w') : w'.ownsRow base e size v n xs := by
 refine ⟨h.1, ?_⟩
 rcases h.2 with h2 | ⟨g, cap, cur, rfl, hg, hh, r⟩
 ·exact .inl h2
 ·exact .inr ⟨g, cap, cur, rfl, hg, (hb.block _ (lt_of_block hh)).trans hh, r⟩
def GathS (S : Nat → Prop) (B : Nat) (w : World) (v : Value) (l : List Obj) : Prop :=
 ∃ lvs : Nat → Value, (∀ b, S b → b < w.heap.size ∧ v.ownBlock ≠ some b) ∧ w.ownsRow B 46 4 v l.length (flat (fun i => objCells (obj l i) (lvs i)) l.length) ∧
  ∀ i, i < l.length → ObjIs S w (obj l i) (lvs i)
def Gath (B : Nat) (w : World) (v : Value) (l : List Obj) : Prop :=
 ∃ (S : Nat → Prop) (lvs : Nat → Value), (∀ b, S b → b < w.heap.size ∧ v.ownBlock ≠ some b) ∧ w.ownsRow B 46 4 v l.length (flat (fun i => objCells (obj l i) (lvs i)) l.length) ∧
  ∀ i, i < l.length → ObjIs S w (obj l i) (lvs i)
theorem GathS.gath {S : Nat → Prop} {B : Nat} {w : World} {v : Value} {l : List Obj} (h : GathS S B w v l) : Gath B w v l := let ⟨lvs, h1, h2, h3⟩ := h; ⟨S, lvs, h1, h2, h3⟩
theorem Gath.nil (B : Nat) (w : World) : Gath B w (.slice none 0 0) [] :=
 ⟨fun _ => False, fun _ => .nilFunc, fun _ h => h.elim, World.ownsRow_nil _ _ _ _, fun i hi => by simp at hi⟩
theorem Gath.below {B : Nat} {w w' : World} {v : Value} {l : List Obj} (h : Gath B w v l) (hb : Below w.heap.size w w') : Gath B w' v l := by
 obtain ⟨S, lvs, h1, h2, h3⟩ := h
 exact ⟨S, lvs, fun b hS => ⟨Nat.lt_of_lt_of_le (h1 b hS).1 hb.size, (h1 b hS).2⟩, own_below h2 hb, fun i hi => (h3 i hi).below hb⟩
theorem Gath.shape {B : Nat} {w : World} {v : Value} {l : List Obj} (h : Gath B w v l) : ∃ a c, v = .slice a l.length c := by
 obtain ⟨S, lvs, h1, h2, h3⟩ := h
 rcases h2.2 with ⟨rfl, hn⟩ | ⟨g, cap, cur, rfl, _⟩
 ·exact ⟨none, 0, by rw [hn]⟩
 ·exact ⟨_, _, rfl⟩
theorem Gath.store {B : Nat} {w : World} {v : Value} {l : List Obj} (h : Gath B w v l) (hl : l.length * 56 ≤ 140737488351232) : StoreV (fun _ => True) w v l := by
 obtain ⟨S, lvs, h1, h2, h3⟩ := h
 refine ⟨lvs, own_sl h2 (fun _ _ => trivial) hl (fun i hi j u hu => ?_), fun i hi => (h3 i hi).weaken fun _ _ => trivial⟩
 exact flat_get (cs := fun i => objCells (obj l i) (lvs i)) (fun _ _ => rfl) i hi j u hu
theorem Gath.own {B : Nat} {w : World} {v : Value} {l : List Obj} (h : Gath B w v l) : ∃ xs, w.ownsRow B 46 4 v l.length xs := let ⟨_, _, _, h2, _⟩ := h; ⟨_, h2⟩
theorem Gath.block {B : Nat} {w : World} {v : Value} {l : List Obj} (h : Gath B w v l) {g : Nat} (hg : v.ownBlock = some g) : B ≤ g ∧ g < w.heap.size := by
 obtain ⟨xs, hx⟩ := h.own
 exact hx.lt g hg
theorem obj_snoc_lt {l : List Obj} {o : Obj} {i : Nat} (h : i < l.length) : obj (l ++ [o]) i = obj l i := by
 unfold obj at_; simp only [List.getD_eq_getElem?_getD, List.getElem?_append_left h]
theorem obj_snoc_eq {l : List Obj} {o : Obj} : obj (l ++ [o]) l.length = o := by
 unfold obj at_; simp
theorem Gath.push {B : Nat} {w w1 : World} {v v' : Value} {l : List Obj} {o : Obj} {lv : Value} {S2 : Nat → Prop} {ob : Go.Obj} {S : Nat → Prop} {lvs : Nat → Value}
  (h1 : ∀ b, S b → b < w.heap.size ∧ v.ownBlock ≠ some b) (h3 : ∀ i, i < l.length → ObjIs S w (obj l i) (lvs i)) (hv : ∀ g, v.ownBlock = some g → g < w.heap.size)
  (ho : ObjIs S2 w o lv) (h2 : ∀ b, S2 b → b < w.heap.size ∧ v.ownBlock ≠ some b)
  (hown : w1.ownsRow B 46 4 v' (l.length + 1) (flat (fun i => objCells (obj l i) (lvs i)) l.length ++ objCells o lv)) (hgrow : (w.alloc ob).grownBy w1 v.ownBlock)
  (hat : v'.ownBlock = v.ownBlock ∨ v'.ownBlock = some (w.heap.size + 1)) : GathS (fun b => S b ∨ S2 b) B w1 v' (l ++ [o]) := by
 have hu : Upd (fun b => v.ownBlock = some b) w w1 := Upd.grown ((Upd.refl _ _).alloc ob) hgrow (fun k hk _ => hk)
 refine ⟨fun i => if i < l.length then lvs i else lv, fun b hb => ?_, ?_, fun i hi => ?_⟩
 ·have hb' : b < w.heap.size ∧ v.ownBlock ≠ some b := by rcases hb with hb | hb; exact h1 b hb; exact h2 b hb
  refine ⟨Nat.lt_of_lt_of_le hb'.1 hu.size, ?_⟩
  rcases hat with h | h
  ·rw [h]; exact hb'.2
  ·rw [h]; intro e; cases e; omega
 ·rw [List.length_append, List.length_singleton, flat]
  have e1 : flat (fun i => objCells (obj (l ++ [o]) i) (if i < l.length then lvs i else lv)) l.length = flat (fun i => objCells (obj l i) (lvs i)) l.length :=
   flat_congr fun i hi => by rw [obj_snoc_lt hi, if_pos hi]
  rw [e1, obj_snoc_eq]
  simp only [Nat.lt_irrefl, if_false]
  exact hown
 ·rw [List.length_append, List.length_singleton] at hi
  by_cases hl : i < l.length
  ·simp only [obj_snoc_lt hl, if_pos hl]
   exact ((h3 i hl).upd hu (fun b hb h => (h1 b hb).2 h)).weaken fun _ h => .inl h
  ·have : i = l.length := by omega
   subst this
   simp only [obj_snoc_eq, if_neg hl]
   exact (ho.upd hu (fun b hb h => (h2 b hb).2 h)).weaken fun _ h => .inr h
theorem Tryz.infoObj : (Tryz.prog.info? 46).map (fun i => (i.zero, i.size, i.bytes)) = some (some (.agg #[.int .i64 0, .int .i64 0, .slice none 0 0, .string ⟨#[]⟩]), 4, 56) := by kernel_rfl
theorem wpList_append_objS {ops : Array Oper} {rest : List Oper} {o : Oper} {a : Act} {w : World} {Q : Exit → Act → World → Prop} (hgd : o.guard = none) (s x : Operand)
  (ho : o.op = .call { callee := .builtin .append, args := #[s, x], argTypes := #[22, 22] }) {B : Nat} {v : Value} {l : List Obj} {p : Obj} {lv : Value} {S S2 : Nat → Prop}
  (hG : GathS S B w v l) (hp : ObjIs S2 w p lv) (hlv : lv.oneCell' = true) (h2 : ∀ b, S2 b → b < w.heap.size ∧ v.ownBlock ≠ some b) (hl : (l.length + 1) * 56 ≤ 140737488351232) (hB : B ≤ w.heap.size)
  (hs : a.eval s = v) {N : Nat} (hx : a.eval x = .slice (some ⟨N, 0, none⟩) 1 1) (hN : N = w.heap.size)
  (h : ∀ v' w', GathS (fun b => S b ∨ S2 b) B w' v' (l ++ [p]) → Upd (fun b => v.ownBlock = some b) w w' → wpList Tryz.prog ops Q rest (a.put o.dst v') w') :
  wpList Tryz.prog ops Q (o :: rest) a (w.alloc (.cells #[.int .i64 p.id, .int .i64 p.kind, lv, .string p.text] 46)) := by
 subst hN
 obtain ⟨lvs, h1, hown, h3⟩ := hG
 obtain ⟨i0, hi, hz0, hz1, hz2⟩ := info_parts Tryz.infoObj
 refine wpList_append_own_at _ hgd s x 22 ho B 46 i0 _ 4 56 Tryz.underlying22 hi hz0 hz1 hz2 rfl (by decide) v l.length _ hs (hown.alloc _) ⟨w.heap.size, 0, none⟩ 1 1 (objCells p lv) hx rfl
  (World.news_of_block (cs := #[.int .i64 p.id, .int .i64 p.kind, lv, .string p.text]) (t := 46) (fr := (0, 0)) (heap_alloc_new w _)) ?_ ?_ (by omega) (by simp; omega) ?_
 ·intro u hu
  simp only [objCells, List.mem_cons, List.not_mem_nil, or_false] at hu
  rcases hu with rfl | rfl | rfl | rfl
  ·rfl
  ·rfl
  ·exact hlv
  ·rfl
 ·unfold maxLen; omega
 ·intro v' w' hown' hgrow _ hat
  exact h v' w' (Gath.push h1 h3 (fun g hg => (hown.lt g hg).2) hp h2 hown' hgrow (by simpa using hat)) (Upd.grown ((Upd.refl _ _).alloc _) hgrow (fun k hk _ => hk))
theorem wpList_append_int {ops : Array Oper} {rest : List Oper} {o : Oper} {a : Act} {w : World} {Q : Exit → Act → World → Prop} (hgd : o.guard = none) (s x : Operand)
  (ho : o.op = .call { callee := .builtin .append, args := #[s, x], argTypes := #[44, 44] }) {B n : Nat} {v : Value} {xs : List Value} {z : Int}
  (hG : w.ownsRow B 3 1 v n xs) (hl : (n + 1) * 8 ≤ 140737488351232) (hB : B ≤ w.heap.size)
  (hs : a.eval s = v) {N : Nat} (hx : a.eval x = .slice (some ⟨N, 0, none⟩) 1 1) (hN : N = w.heap.size)
  (h : ∀ v' w', w'.ownsRow B 3 1 v' (n + 1) (xs ++ [.int .i64 z]) → Upd (fun b => v.ownBlock = some b) w w' → wpList Tryz.prog ops Q rest (a.put o.dst v') w') :
  wpList Tryz.prog ops Q (o :: rest) a (w.alloc (.cells #[.int .i64 z] 3)) := by
 subst hN
 obtain ⟨i0, hi, hz0, hz1, hz2⟩ := info_parts Tryz.infoInt
 refine wpList_append_own_at _ hgd s x 44 ho B 3 i0 _ 1 8 Tryz.underlying44 hi hz0 hz1 hz2 rfl (by decide) v n _ hs (hG.alloc _) ⟨w.heap.size, 0, none⟩ 1 1 [.int .i64 z] hx rfl
  (World.news_of_block (cs := #[.int .i64 z]) (t := 3) (fr := (0, 0)) (heap_alloc_new w _)) ?_ ?_ (by omega) (by simp; omega) ?_
 ·intro u hu
  simp only [List.mem_cons, List.not_mem_nil, or_false] at hu
  subst hu; rfl
 ·unfold maxLen; omega
 ·intro v' w' hown' hgrow _ hat
  exact h v' w' hown' (Upd.grown ((Upd.refl _ _).alloc _) hgrow (fun k hk _ => hk))
end Go.Proofs.YtjdgpgfiomnjkaaGreatDoor
namespace Go.Proofs.YtjdgpgfiomnjkaaGreatDoor
open Go.RowKit
set_option linter.unusedVariables false
set_option linter.unusedSimpArgs false
set_option linter.unusedSectionVars false
variable [Ghost]
def idxI (p : Int → Bool) (l : List Int) : Int := match l.findIdx? p with | some i => (i : Int) | none => -1
theorem idxI_hit {l : List Int} {p : Int → Bool} {k : Nat} (h : ∀ j, j < k → p (nth l j) = false) (hk : k < l.length) (he : p (nth l k) = true) : idxI p l = k := by
 unfold idxI
 have : l.findIdx? p = some k := by
  rw [List.findIdx?_eq_some_iff_getElem]
  refine ⟨hk, by rw [← nth_lt hk]; exact he, fun j hj => ?_⟩
  have := h j hj
  rw [nth_lt (by omega)] at this
  simp [this]
 rw [this]
theorem idxI_none {l : List Int} {p : Int → Bool} (h : ∀ j, j < l.length → p (nth l j) = false) : idxI p l = -1 := by
 unfold idxI
 have : l.findIdx? p = none := by
  rw [List.findIdx?_eq_none_iff]
  intro x hx
  obtain ⟨i, hi, rfl⟩ := List.getElem_of_mem hx
  have := h i hi
  rwa [nth_lt hi] at this
 rw [this]
theorem idxI_cases (p : Int → Bool) (l : List Int) : (idxI p l = -1 ∧ ∀ j, j < l.length → p (nth l j) = false) ∨ ∃ k, k < l.length ∧ idxI p l = (k : Int) ∧ p (nth l k) = true := by
 unfold idxI
 cases h : l.findIdx? p with
 | none =>
  rw [List.findIdx?_eq_none_iff] at h
  exact .inl ⟨rfl, fun j hj => by rw [nth_lt hj]; exact h _ (List.getElem_mem hj)⟩
 | some k =>
  rw [List.findIdx?_eq_some_iff_getElem] at h
  obtain ⟨hk, he, _⟩ := h
  exact .inr ⟨k, hk, rfl, by rw [nth_lt hk]; exact he⟩
def AsksI (g : Nat) (c : Value) (p : Int → Bool) (w : World) : Prop :=
 ∀ (x : World) (z : Int), Below w.heap.size w x → Calls Tryz.prog g #[.int .i64 z, c] x fun e w' => e = .returned (.bool (p z)) ∧ Below x.heap.size x w'
set_option maxHeartbeats 1000000 in
theorem indexFuncI_any (l : List Int) (v c : Value) (S : Nat → Prop) (g : Nat) (p : Int → Bool) (w : World) (h : IntsV S w v l) (eg : ∀ args w, (callFunc g args).run Tryz.prog w = .ok (.enter g args) w) (hp : AsksI g c p w) :
  Calls Tryz.prog 199 #[v, .func (.func g) #[] #[c]] w fun e w' => e = .returned (.int .i64 (idxI p l)) ∧ Below w.heap.size w w' := by
 obtain ⟨a, n, cap, HN, rfl, h1, h2, h3, h4⟩ := h.open
 clear h
 obtain ⟨R, hR, hR1, _⟩ := cls_plain w
 have hRb := hR.below
 have hRn := hR.next
 have Hp := Lib.hid hp; clear hp
 have Hh := Lib.hid (fun k h1 hk he => idxI_hit (l := l) (p := p) (k := k) h1 (by rw [← HN.out]; exact hk) he)
 have Hn := Lib.hid (fun h1 => idxI_none (l := l) (p := p) (by rw [← HN.out]; exact h1))
 go_enter Tryz.func199, Tryz.ntmps199
 go_wp2_with fail
 go_loopw [8] (fun i wr => ∃ k : Nat, k ≤ n ∧ i = .int .i64 k ∧ Hid (∀ j, j < k → p (nth l j) = false) ∧ In R wr) (fun i _ => n - (intOf i).toNat)
 case atStart => exact ⟨0, by omega, rfl, fun j hj => absurd hj (by omega), hR1⟩
 case round =>
  obtain ⟨k, hk, rfl, Hs, hRw⟩ := hrel
  clear hR1
  by_cases hlt : k < n
  ·obtain ⟨b, off, rfl, hb, k0⟩ := h4 (by omega)
   have x0 := k0 k wr hlt (hRb _ hRw)
   clear h4 k0
   cases hq : p (nth l k)
   ·have He := Lib.hid hq
    go_wp2_with fail
    refine (Hp.out _ (nth l k) (hRb _ hRw)).mono ?_
    rintro e w' ⟨rfl, hb2⟩
    rw [hq]
    have hR2 := hRn _ _ hRw hb2
    go_wp2_with fail
    go_roundw
    case rel => exact ⟨k + 1, by omega, by go_num, all_next Hs.out He.out, hR2⟩
    case measure => simp [intOf]; omega
   ·have HK := Lib.hid (Hh.out k Hs.out hlt hq)
    go_wp2_with fail
    refine (Hp.out _ (nth l k) (hRb _ hRw)).mono ?_
    rintro e w' ⟨rfl, hb2⟩
    rw [hq]
    have hR2 := hRn _ _ hRw hb2
    go_wp2_with fail
    go_ret
    exact ⟨ret_int HK.out.symm, hRb _ hR2⟩
  ·obtain rfl : k = n := by omega
   have HK := Lib.hid (Hn.out Hs.out)
   go_wp2_with fail
   go_ret
   exact ⟨ret_int HK.out.symm, hRb _ hRw⟩
set_option maxHeartbeats 400000 in
theorem containsFuncI_any (l : List Int) (v c : Value) (S : Nat → Prop) (g : Nat) (p : Int → Bool) (w : World) (h : IntsV S w v l) (eg : ∀ args w, (callFunc g args).run Tryz.prog w = .ok (.enter g args) w) (hp : AsksI g c p w) :
  Calls Tryz.prog 146 #[v, .func (.func g) #[] #[c]] w fun e w' => e = .returned (.bool (l.any p)) ∧ Below w.heap.size w w' := by
 obtain ⟨q, rfl⟩ := h.shape
 have Hi := Lib.hid (indexFuncI_any l _ c S g p w h eg hp)
 rcases idxI_cases p l with ⟨h0, h1⟩ | ⟨k, hk, h0, h1⟩
 ·have Ha := Lib.hid (show l.any p = false by
   rw [List.any_eq_false]
   intro x hx
   obtain ⟨i, hi, rfl⟩ := List.getElem_of_mem hx
   have := h1 i hi
   rw [nth_lt hi] at this
   simp [this])
  clear h1 hp
  go_enter Tryz.func146, Tryz.ntmps146
  go_wp2_with fail
  refine Hi.out.mono ?_
  rintro e w' ⟨rfl, hb⟩
  rw [h0]
  go_wp2_with fail
  go_ret
  exact ⟨by rw [Ha.out]; rfl, hb⟩
 ·have Ha := Lib.hid (show l.any p = true by
   rw [List.any_eq_true]
   exact ⟨nth l k, by rw [nth_lt hk]; exact List.getElem_mem hk, h1⟩)
  have hd : decide ((0 : Int) ≤ (k : Int)) = true := by simp
  clear h1 hp
  go_enter Tryz.func146, Tryz.ntmps146
  go_wp2_with fail
  refine Hi.out.mono ?_
  rintro e w' ⟨rfl, hb⟩
  rw [h0]
  go_wp2_with fail
  go_ret
  exact ⟨by rw [Ha.out]; first | rfl | simp, hb⟩
set_option maxHeartbeats 400000 in
theorem there1_any (l : List Obj) (id : Int) (lv : Value) (S : Nat → Prop) (a : Addr) (w : World) (hr : Rising l) (h : StoreV S w lv l) (hc : w.cell? a = some lv) :
  Calls Tryz.prog 147 #[.int .i64 id, .pointer (some a)] w fun e w' => e = .returned (.bool (kindOf l id == 0)) ∧ Below w.heap.size w w' := by
 have Hk := Lib.hid (kind_any l lv S id w h hr)
 obtain ⟨sa, sc, sn, rfl⟩ : ∃ a cap n, lv = .slice a n cap := let ⟨_, ⟨a, cap, hv, _⟩, _⟩ := h; ⟨a, cap, _, hv⟩
 generalize kindOf l id = kd at *
 have hq : (kd == 0) = decide (kd = 0) := rfl
 go_enter Tryz.func147, Tryz.ntmps147
 go_wp2_with fail
 refine Hk.out.mono ?_
 rintro e w' ⟨rfl, hb⟩
 go_wp2_with fail
 go_ret
 exact ⟨rfl, hb⟩
set_option maxRecDepth 100000 in
set_option maxHeartbeats 1000000 in
theorem there_any (l : List Obj) (ids : List Int) (lv tv : Value) (S S' : Nat → Prop) (w : World) (h : StoreV S w lv l) (ht : IntsV S' w tv ids) :
  Calls Tryz.prog 84 #[lv, tv] w fun e w' => e = .returned (.int .i64 (thereErr l ids)) ∧ Below w.heap.size w w' := by
 obtain ⟨sa, sc, sn, rfl⟩ : ∃ a cap n, lv = .slice a n cap := let ⟨_, ⟨a, cap, hv, _⟩, _⟩ := h; ⟨a, cap, _, hv⟩
 obtain ⟨⟨tp, tc⟩, rfl⟩ := ht.shape
 obtain ⟨R, hR, hR1, hc⟩ := cls_box w #[.slice sa sn sc] 22
 have hc0 := hc 0 _ rfl
 clear hc
 have hRb := hR.below
 have hRn := hR.next
 have Hd := Lib.hid (show thereErr l ids = if checkStore l ≠ 0 then checkStore l else if ids.any (fun x => kindOf l x == 0) then 5 else 0 from rfl)
 have hmf : ∀ (fn : Fn) (first cap : Array Value) (w : World), (Instr.makeFunc fn first cap).run Tryz.prog w = .ok (.func fn first cap) w := fun _ _ _ _ => rfl
 by_cases hz : checkStore l = 0
 ·have hz' : (checkStore l != 0) = false := by simpa using hz
  have Hr := Lib.hid (checkStore_rising hz)
  have Hz := Lib.hid hz; clear hz
  go_enter Tryz.func84, Tryz.ntmps84
  go_wp2_with fail
  refine (storeCheck_any l _ S _ (h.below (hRb _ hR1))).mono ?_
  rintro e w2 ⟨rfl, hb2⟩
  have hR2 := hRn _ _ hR1 hb2
  have Hap := Lib.hid (show AsksI 147 (.pointer (some ⟨w.heap.size, 0, none⟩)) (fun x => kindOf l x == 0) w2 from fun x z hx => there1_any l z _ S _ x Hr.out (h.below (hRb _ (hRn _ _ hR2 hx))) (hc0 x (hRn _ _ hR2 hx)))
  go_wp2_with fail
  refine (containsFuncI_any ids _ _ S' _ _ _ (ht.below (hRb _ hR2)) (fun _ _ => rfl) Hap.out).mono ?_
  rintro e w3 ⟨rfl, hb3⟩
  have hR3 := hRn _ _ hR2 hb3
  cases ha : ids.any (fun x => kindOf l x == 0)
  ·go_wp2_with fail
   go_ret
   exact ⟨ret_int (by rw [Hd.out, if_neg (by simp [Hz.out]), ha]; rfl), hRb _ hR3⟩
  ·go_wp2_with fail
   go_ret
   exact ⟨ret_int (by rw [Hd.out, if_neg (by simp [Hz.out]), ha]; rfl), hRb _ hR3⟩
 ·have hz' : (checkStore l != 0) = true := by simpa using hz
  have Hz := Lib.hid hz; clear hz
  go_enter Tryz.func84, Tryz.ntmps84
  go_wp2_with fail
  refine (storeCheck_any l _ S _ (h.below (hRb _ hR1))).mono ?_
  rintro e w2 ⟨rfl, hb2⟩
  go_wp2_with fail
  go_ret
  exact ⟨ret_int (by rw [Hd.out, if_pos Hz.out]), hRb _ (hRn _ _ hR1 hb2)⟩
end Go.Proofs.YtjdgpgfiomnjkaaGreatDoor
namespace Go.Proofs.YtjdgpgfiomnjkaaGreatDoor
open Go.RowKit
set_option linter.unusedVariables false
set_option linter.unusedSimpArgs false
set_option linter.unusedSectionVars false
variable [Ghost]
theorem Rising.place {l : List Obj} (h : Rising l) {id : Int} (hk : kindOf l id ≠ 0) : isAt l id = true ∧ lo l id < l.length ∧ atOf l id = (lo l id : Int) ∧ (obj l (lo l id)).id = id ∧ kindOf l id = (obj l (lo l id)).kind := by
 obtain ⟨j, hj, hid, hkd⟩ := kind_place hk
 subst hid
 have e := h.lo_self hj
 refine ⟨h.isAt_self hj, by rw [e]; exact hj, by rw [h.at_self hj, e], by rw [e], by rw [e]; exact hkd⟩
set_option maxRecDepth 100000 in
set_option maxHeartbeats 1000000 in
theorem has_any (l : List Obj) (old newer : Int) (lv : Value) (S : Nat → Prop) (w : World) (h : StoreV S w lv l) (hR : Right l) (h1 : kindOf l old ≠ 0) (h2 : kindOf l newer = 3) (hi : I64 newer) :
  Calls Tryz.prog 123 #[lv, .int .i64 old, .int .i64 newer] w fun e w' => e = .returned (.bool (behindB l old newer)) ∧ Below w.heap.size w w' := by
 obtain ⟨p1, p2, p3, p4, p5⟩ := hR.rising.place h1
 obtain ⟨q1, q2, q3, q4, q5⟩ := hR.rising.place (id := newer) (by omega)
 have Hat := Lib.hid (by have := at_any l lv S old w h hR.rising; rw [p1] at this; exact this)
 obtain ⟨sa, sc, sn, rfl⟩ : ∃ a cap n, lv = .slice a n cap := let ⟨_, ⟨a, cap, hv, _⟩, _⟩ := h; ⟨a, cap, _, hv⟩
 have Hb := Lib.hid (show behindB l old newer = reachB l true [newer] (lo l old) by unfold behindB; rw [p3]; rfl)
 have Hpl := Lib.hid (show ∀ k, k < [newer].length → ∃ i, i < l.length ∧ (obj l i).id = nth [newer] k ∧ (obj l i).kind = 3 from fun k hk => by
  have h0 : k = 0 := by simp at hk; omega
  subst h0
  exact ⟨lo l newer, q2, q4, by omega⟩)
 generalize hj : lo l old = j at *
 have Hj := Lib.hid p2
 have HR := Lib.hid hR
 clear p1 p2 p3 p4 p5 q1 q2 q3 q4 q5 hj h1 h2
 go_enter Tryz.func123, Tryz.ntmps123
 go_wp2_with fail
 refine Hat.out.mono ?_
 rintro e w1 ⟨rfl, hb1⟩
 have HI := Lib.hid (ints_new w1 [newer] 3 w1.heap.size rfl (by simp) (by intro x hx; simp only [List.mem_cons, List.not_mem_nil, or_false] at hx; subst hx; exact hi))
 have hb2 : Below w.heap.size w (w1.alloc (.cells #[.int .i64 newer] 3)) := hb1.alloc hb1.size _
 have hst2 := h.below hb2
 go_wp2_with fail
 refine (walk_any l true [newer] _ parents_any (fun _ _ => rfl) HR.out S _ _ _ _ hst2 HI.out (fun k hk => let ⟨i, a, b, c⟩ := Hpl.out k hk; ⟨i, a, b, fun _ => c⟩)).mono ?_
 rintro e w3 ⟨bw, bm, M, rfl, hwk, hM, hb3⟩
 have hMj := hM j Hj.out
 have hb4 := below_next hb2 hb3
 have c1 := block_cell (j := 1) hwk.1 rfl
 have cm := block_cell (j := j) hwk.2 (markRow_get Hj.out)
 rw [hMj, ← Hb.out] at cm
 have hjn : j < l.length := Hj.out
 have Hlen : ∃ n, n = l.length := ⟨_, rfl⟩
 obtain ⟨n, hn⟩ := Hlen
 rw [← hn] at c1 hjn
 have HX := Lib.hid hb4
 have hi1 : (0 : Int) ≤ (j : Int) := by omega
 have hi2 : (j : Int) < (n : Int) := by omega
 clear hn hMj hwk hM hb2 hb3 hb4 hst2 hb1
 go_wp2_with fail
 go_ret
 refine ⟨?_, HX.out⟩
 rfl
def behindRes (l : List Obj) (old newer : Int) : Bool := if behindErr l old newer = 0 then behindB l old newer else false
theorem ret_bi {a b : Int} {x y : Bool} (hx : x = y) (h : a = b) : Ending.returned (.tuple #[.bool x, .int .i64 a]) = .returned (.tuple #[.bool y, .int .i64 b]) := by rw [h, hx]
theorem there_zero {l : List Obj} {ids : List Int} (h : thereErr l ids = 0) : checkStore l = 0 ∧ ∀ x ∈ ids, kindOf l x ≠ 0 := by
 unfold thereErr at h
 by_cases h1 : checkStore l = 0
 ·rw [if_neg (by simp [h1])] at h
  refine ⟨h1, fun x hx e => ?_⟩
  have : (ids.any fun x => kindOf l x == 0) = true := by rw [List.any_eq_true]; exact ⟨x, hx, by simp [e]⟩
  rw [this] at h; exact absurd h (by decide)
 ·rw [if_pos h1] at h; exact absurd h h1
set_option maxRecDepth 100000 in
set_option maxHeartbeats 2000000 in
theorem behind_any (l : List Obj) (old newer : Int) (lv : Value) (S : Nat → Prop) (w : World) (h : StoreV S w lv l) (ho : I64 old) (hn : I64 newer) :
  Calls Tryz.prog 63 #[lv, .int .i64 old, .int .i64 newer] w fun e w' => e = .returned (.tuple #[.bool (behindRes l old newer), .int .i64 (behindErr l old newer)]) ∧ Below w.heap.size w w' := by
 have h' := h
 obtain ⟨sa, sc, sn, rfl⟩ : ∃ a cap n, lv = .slice a n cap := let ⟨_, ⟨a, cap, hv, _⟩, _⟩ := h; ⟨a, cap, _, hv⟩
 have HI := Lib.hid (ints_new w [old, newer] 3 w.heap.size rfl (by simp) (by intro x hx; simp only [List.mem_cons, List.not_mem_nil, or_false] at hx; rcases hx with rfl | rfl; exact ho; exact hn))
 have hb1 : Below w.heap.size w (w.alloc (.cells #[.int .i64 old, .int .i64 newer] 3)) := (Below.refl _ _).alloc (Nat.le_refl _) _
 have Hth := Lib.hid (there_any l [old, newer] _ _ S _ _ (h.below hb1) HI.out)
 have Hb1 := Lib.hid hb1
 clear hb1 HI
 by_cases hz : thereErr l [old, newer] = 0
 ·obtain ⟨hcs, hids⟩ := there_zero hz
  have hko := hids old (by simp)
  have hkn := hids newer (by simp)
  have HR := Lib.hid (right_of hcs)
  have Hk1 := Lib.hid (fun x (hx : Below w.heap.size w x) => kind_any l _ S old x (h.below hx) HR.out.rising)
  have Hk2 := Lib.hid (fun x (hx : Below w.heap.size w x) => kind_any l _ S newer x (h.below hx) HR.out.rising)
  have Hhas := Lib.hid (fun x (hx : Below w.heap.size w x) h2 => has_any l old newer _ S x (h.below hx) HR.out hko h2 hn)
  have Hd := Lib.hid (show behindErr l old newer = if kindOf l old ≠ 3 ∨ kindOf l newer ≠ 3 then 7 else 0 by unfold behindErr; rw [if_neg (by simp [hz])])
  have Hrs := Lib.hid (show behindRes l old newer = if behindErr l old newer = 0 then behindB l old newer else false from rfl)
  rw [hz] at Hth
  clear hz hcs hids hko hkn h
  generalize kindOf l old = ko at *
  generalize kindOf l newer = kn at *
  by_cases h1 : ko = 3
  ·have q1 : (ko != 3) = false := by simpa using h1
   by_cases h2 : kn = 3
   ·have q2 : (kn != 3) = false := by simpa using h2
    have He := Lib.hid (show behindErr l old newer = 0 by rw [Hd.out, if_neg (by simp [h1, h2])])
    have Hh2 := Lib.hid (fun x hx => Hhas.out x hx h2)
    clear h1 h2
    go_enter Tryz.func63, Tryz.ntmps63
    go_wp2_with fail
    refine Hth.out.mono ?_
    rintro e w2 ⟨rfl, hb2⟩
    have hbw := below_next Hb1.out hb2
    go_wp2_with fail
    refine (Hk1.out _ hbw).mono ?_
    rintro e w3 ⟨rfl, hb3⟩
    have hbw3 := below_next hbw hb3
    go_wp2_with fail
    refine (Hk2.out _ hbw3).mono ?_
    rintro e w4 ⟨rfl, hb4⟩
    have hbw4 := below_next hbw3 hb4
    go_wp2_with fail
    refine (Hh2.out _ hbw4).mono ?_
    rintro e w5 ⟨rfl, hb5⟩
    go_wp2_with fail
    go_ret2
    exact ⟨ret_bi (by rw [Hrs.out, He.out, if_pos rfl]) He.out.symm, below_next hbw4 hb5⟩
   ·have q2 : (kn != 3) = true := by simpa using h2
    have He := Lib.hid (show behindErr l old newer = 7 by rw [Hd.out, if_pos (.inr h2)])
    clear h1 h2
    go_enter Tryz.func63, Tryz.ntmps63
    go_wp2_with fail
    refine Hth.out.mono ?_
    rintro e w2 ⟨rfl, hb2⟩
    have hbw := below_next Hb1.out hb2
    go_wp2_with fail
    refine (Hk1.out _ hbw).mono ?_
    rintro e w3 ⟨rfl, hb3⟩
    have hbw3 := below_next hbw hb3
    go_wp2_with fail
    refine (Hk2.out _ hbw3).mono ?_
    rintro e w4 ⟨rfl, hb4⟩
    have hbw4 := below_next hbw3 hb4
    go_wp2_with fail
    go_ret2
    exact ⟨ret_bi (by rw [Hrs.out, He.out, if_neg (by decide)]) He.out.symm, hbw4⟩
  ·have q1 : (ko != 3) = true := by simpa using h1
   have He := Lib.hid (show behindErr l old newer = 7 by rw [Hd.out, if_pos (.inl h1)])
   clear h1
   go_enter Tryz.func63, Tryz.ntmps63
   go_wp2_with fail
   refine Hth.out.mono ?_
   rintro e w2 ⟨rfl, hb2⟩
   have hbw := below_next Hb1.out hb2
   go_wp2_with fail
   refine (Hk1.out _ hbw).mono ?_
   rintro e w3 ⟨rfl, hb3⟩
   have hbw3 := below_next hbw hb3
   go_wp2_with fail
   go_ret2
   exact ⟨ret_bi (by rw [Hrs.out, He.out, if_neg (by decide)]) He.out.symm, hbw3⟩
 ·have He := Lib.hid (show behindErr l old newer = thereErr l [old, newer] by unfold behindErr; rw [if_pos hz])
  have Hrs := Lib.hid (show behindRes l old newer = false by unfold behindRes; rw [He.out, if_neg hz])
  have q0 : (thereErr l [old, newer] == 0) = false := by simpa using hz
  have q1 : (thereErr l [old, newer] != 0) = true := by simpa using hz
  clear hz
  generalize thereErr l [old, newer] = te at *
  go_enter Tryz.func63, Tryz.ntmps63
  go_wp2_with fail
  refine Hth.out.mono ?_
  rintro e w2 ⟨rfl, hb2⟩
  have hbw := below_next Hb1.out hb2
  go_wp2_with fail
  go_ret2
  exact ⟨ret_bi Hrs.out.symm He.out.symm, hbw⟩
end Go.Proofs.YtjdgpgfiomnjkaaGreatDoor
