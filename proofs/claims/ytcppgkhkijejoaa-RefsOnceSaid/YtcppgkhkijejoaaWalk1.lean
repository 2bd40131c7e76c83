/- Walks: copies of numbers and objects: slices.Clone, object.Own; the links that are followed. -/
import Derived.Test.YtcppgkhkijejoaaLinks
import Derived.Test.YtcppgkhkijejoaaDec
import Derived.Test.YtcppgkhkijejoaaWalkP
namespace Go.Proofs.Ytcppgkhkijejoaa
open Go.RowKit
set_option linter.unusedVariables false
set_option linter.unusedSimpArgs false

/-- numbers come back, in new memory -/
def RetInts (w w' : World) (e : Ending) (xs : List Int) : Prop := ∃ v, e = .returned v ∧ IntsV (fun b => w.heap.size ≤ b) w' v xs ∧ Below w.heap.size w w'
/-- an object comes back, in new memory -/
def RetObj (w w' : World) (e : Ending) (o : Obj) : Prop := ∃ lv, e = .returned (.agg #[.int .i64 o.id, .int .i64 o.kind, lv, .string o.text]) ∧ ObjIs (fun b => w.heap.size ≤ b) w' o lv ∧ Below w.heap.size w w'

theorem own_ints' {x : World} {B N : Nat} {v : Value} {zs : List Int} (h : x.ownsRow B 3 1 v N (zs.map (Value.int .i64))) (hN : N = zs.length) (hi : ∀ z ∈ zs, I64 z) (hb : N * 8 ≤ 140737488351232) : IntsV (fun b => B ≤ b) x v zs := by
  subst hN
  refine ⟨own_sl h (fun g hg => (h.lt g hg).1) (by omega) (fun i hn j u hu => ?_), hi⟩
  match j, hu with
  | 0, hu =>
    simp at hu; subst hu
    simp [nth_lt hn, hn]

/-- append of a []int to an empty slice that is new -/
theorem clone_append {w : World} {xs : List Int} {lv : Value} {S : Nat → Prop} (ty : TypeId) (hy : IntsV S w lv xs) :
    ∃ v' x', (Builtin.append_ #[22, 22] ty #[.slice (some ⟨w.heap.size, 0, none⟩) 0 0, lv]).run Try.prog (w.alloc (.cells #[] 3)) = .ok v' x' ∧ (∃ a n c, v' = .slice a n c) ∧
      IntsV (fun b => w.heap.size ≤ b) x' v' xs ∧ Below w.heap.size w x' := by
  have hown := own_empty w 3 w.heap.size (Nat.le_refl _)
  have hlen : xs.length * 8 ≤ 140737488351232 := by obtain ⟨⟨_, _, _, _, _, h, _⟩, _⟩ := hy; exact h
  obtain ⟨i0, hi, hz0, hz1, hz2⟩ := info_parts Try.infoInt
  have hy' := hy.below ((Below.refl _ _).alloc (Nat.le_refl _) (.cells #[] 3))
  obtain ⟨a, n, cap, HN, rfl, h1, h2, h3, h4⟩ := hy'.open
  have hn : n = xs.length := HN.out
  subst hn
  have hB1 : Below w.heap.size w (w.alloc (.cells #[] 3)) := (Below.refl _ _).alloc (Nat.le_refl _) _
  by_cases h0 : xs.length = 0
  · have hnil : xs = [] := List.length_eq_zero_iff.1 h0
    subst hnil
    refine ⟨.slice (some ⟨w.heap.size, 0, none⟩) 0 0, w.alloc (.cells #[] 3), ?_, ⟨_, _, _, rfl⟩, IntsV.nil _ _ _ _ (by omega), hB1⟩
    exact run_append_nothing _ 22 22 ty 3 i0 Try.underlying22 hi (some ⟨w.heap.size, 0, none⟩) 0 0 (Nat.le_refl _) _
      ⟨.inl ⟨_, Try.underlying22⟩, fun w' => by simp [Builtin.lenOf], by cases a <;> simp [Builtin.firstCells] <;> rfl, by cases a <;> simp [Builtin.firstCells] <;> rfl, by simp, by simp⟩
  · obtain ⟨b, off, rfl, _, hc⟩ := h4 (by omega)
    obtain ⟨g', c', x', hr, ho, hg, _, _⟩ := run_append_lies (P := Try.prog) (w.alloc (.cells #[] 3)) 22 ty w.heap.size 3 i0 _ 1 8 Try.underlying22 hi hz0 hz1 hz2 rfl (by omega) _ 0 _ hown ⟨b, off, none⟩ xs.length cap (xs.map (Value.int .i64)) (by simp)
      (fun j u hu => by
        rw [List.getElem?_map] at hu
        by_cases hj : j < xs.length
        · rw [List.getElem?_eq_getElem hj] at hu
          simp at hu; subst hu
          have := hc j _ hj (Below.refl _ _)
          rw [nth_lt hj] at this
          rw [show (⟨b, off, none⟩ : Addr).add j = ⟨b, off + j, none⟩ by unfold Addr.add; split <;> simp_all]
          exact this
        · rw [List.getElem?_eq_none (by omega)] at hu; cases hu)
      (by intro u hu; obtain ⟨k, _, rfl⟩ := List.mem_map.1 hu; rfl) (by omega) (by unfold maxLen; omega) (by omega) (by simp) _ rfl
    refine ⟨_, x', hr, ⟨_, _, _, rfl⟩, own_ints' (by simpa using ho) (by omega) hy.2 (by omega), ?_⟩
    exact Below.grown hB1 hg (by simp) (fun k hk => (hown.lt k hk).1)

theorem wpList_append_run {P : Program} {ops : Array Oper} {rest : List Oper} {o : Oper} {a : Act} {w w' : World} {Q : Exit → Act → World → Prop} (hgd : o.guard = none) (s x : Operand) (t : TypeId)
    (ho : o.op = .call { callee := .builtin .append, args := #[s, x], argTypes := #[t, t] }) (v u r : Value) (hs : a.eval s = v) (hx : a.eval x = u)
    (hr : (Builtin.append_ #[t, t] o.type #[v, u]).run P w = .ok r w') (h : wpList P ops Q rest (a.put o.dst r) w') : wpList P ops Q (o :: rest) a w := by
  refine wpList_plain hgd fun K hK => ?_
  exact wp_append_run s x t ho v u r hs hx hr (hK _ _ h)

set_option maxRecDepth 100000 in
set_option maxHeartbeats 1000000 in
theorem clone_any (xs : List Int) (v : Value) (S : Nat → Prop) (w : World) (h : IntsV S w v xs) : Calls Try.prog 89 #[v] w fun e w' => RetInts w w' e xs := by
  have hq := fun (w : World) (a : Option Addr) (n c : Nat) => Lib.run_eql_slice_nil (P := Try.prog) w 22 3 a n c 0 0 Try.underlying22
  have h' := h
  obtain ⟨a, n, cap, HN, rfl, h1, h2, h3, h4⟩ := h.open
  cases a with
  | none =>
    have hn : n = 0 := by
      rcases Nat.eq_zero_or_pos n with e | e
      · exact e
      · obtain ⟨b, off, e, _⟩ := h4 e; cases e
    subst hn
    have hnil : xs = [] := List.length_eq_zero_iff.1 HN.out.symm
    subst hnil
    clear h' h4 HN h
    go_enter Try.func89, Try.ntmps89
    go_wp2_with fail
    go_ret
    exact ⟨_, rfl, IntsV.nil _ _ _ _ (by omega), Below.refl _ _⟩
  | some p =>
    obtain ⟨v', x', hr, ⟨a', n', c', rfl⟩, hv, hb⟩ := clone_append 22 h'
    have Hv := Lib.hid hv
    have Hb := Lib.hid hb
    clear hv hb h4 h h'
    go_enter Try.func89, Try.ntmps89
    go_wp2_with (at_builtin; refine wpList_append_run rfl _ _ 22 rfl _ _ _ rfl rfl hr ?_)
    go_ret
    exact ⟨_, rfl, Hv.out, Hb.out⟩

set_option maxRecDepth 100000 in
set_option maxHeartbeats 1000000 in
theorem own_any (o : Obj) (lv : Value) (S : Nat → Prop) (w : World) (ho : ObjIs S w o lv) :
    Calls Try.prog 67 #[.agg #[.int .i64 o.id, .int .i64 o.kind, lv, .string o.text]] w fun e w' => RetObj w w' e o := by
  obtain ⟨⟨p, c⟩, rfl⟩ := ho.1.shape
  obtain ⟨w0, hw0⟩ : ∃ w0 : World, w0 = (w.alloc (.cells #[.int .i64 o.id, .int .i64 o.kind, .slice p o.links.length c, .string o.text] 24)).alloc (.cells #[.int .i64 0, .int .i64 0, .slice none 0 0, .string ⟨#[]⟩] 24) := ⟨_, rfl⟩
  have h1 : w0.heap[w.heap.size]? = some (.cells #[.int .i64 o.id, .int .i64 o.kind, .slice p o.links.length c, .string o.text] 24 (0, 0)) := by
    rw [hw0, Below.heap_alloc _ _ _ (by simp)]; exact heap_alloc_new w _
  have h2 : w0.heap[w.heap.size + 1]? = some (.cells #[.int .i64 0, .int .i64 0, .slice none 0 0, .string ⟨#[]⟩] 24 (0, 0)) := by
    rw [hw0]; exact heap_new _ _ _ (by simp)
  have hb : Below w.heap.size w w0 := by rw [hw0]; exact ((Below.refl _ _).alloc (Nat.le_refl _) _).alloc (by simp) _
  have hz : w0.heap.size = w.heap.size + 2 := by rw [hw0]; simp
  have c2 := block_cell (j := 2) h1 rfl
  go_enter Try.func67, Try.ntmps67
  go_wp2_with fail
  rw [← hw0]
  have Hw0 := Lib.hid hw0; clear hw0
  refine (clone_any o.links _ S _ (ho.1.below hb)).mono ?_
  rintro e w1 ⟨v1, rfl, hv1, hb1⟩
  obtain ⟨⟨p1, c1⟩, rfl⟩ := hv1.shape
  have k1 := (hb1.block _ (lt_of_block h1)).trans h1
  have k2 := (hb1.block _ (lt_of_block h2)).trans h2
  have d0 := block_cell (j := 0) k1 rfl
  have d1 := block_cell (j := 1) k1 rfl
  have d2 := block_cell (j := 2) k1 rfl
  have d3 := block_cell (j := 3) k1 rfl
  have f2 := block_free (j := 2) k1
  have e0 := block_cell (j := 0) k2 rfl
  have e1 := block_cell (j := 1) k2 rfl
  have e2 := block_cell (j := 2) k2 rfl
  have e3 := block_cell (j := 3) k2 rfl
  have g0 := block_free (j := 0) k2
  have g1 := block_free (j := 1) k2
  have g2 := block_free (j := 2) k2
  have g3 := block_free (j := 3) k2
  have hs2 := (Below.heap_setCell w1 ⟨w.heap.size, 2, none⟩ (.slice p1 o.links.length c1) (w.heap.size + 1) (by simp)).trans k2
  have hs4 := set4_is (v0 := .int .i64 o.id) (v1 := .int .i64 o.kind) (v2 := .slice p1 o.links.length c1) (v3 := .string o.text) hs2
  have hu : Upd (fun b => b = w.heap.size ∨ b = w.heap.size + 1) w1 (set4 (w.heap.size + 1) (.int .i64 o.id) (.int .i64 o.kind) (.slice p1 o.links.length c1) (.string o.text) (w1.setCell ⟨w.heap.size, 2, none⟩ (.slice p1 o.links.length c1))) :=
    (Upd.setCell (Upd.refl _ _) (fun _ => .inl rfl) _).trans (set4_upd _ _ _ _ _ _) (fun x _ h => .inr h)
  have HO := Lib.hid (show ObjIs (fun b => w.heap.size ≤ b) _ o (.slice p1 o.links.length c1) from ⟨(hv1.upd hu (fun b hb h => by omega)).weaken (fun b hb => by omega), ho.2⟩)
  have HB := Lib.hid ((hb.trans (hb1.mono (by omega))).trans (hu.below (B := w.heap.size) (by have := hb1.size; omega) (fun b hb => by omega)))
  have Hs4 := Lib.hid hs4
  clear hs2 hs4 hu k1 k2 h1 h2 hb hv1 hb1
  go_wp2_with fail
  refine bodyPost_ret (w := set4 (w.heap.size + 1) (.int .i64 o.id) (.int .i64 o.kind) (.slice p1 o.links.length c1) (.string o.text) (w1.setCell ⟨w.heap.size, 2, none⟩ (.slice p1 o.links.length c1))) (v := .agg #[.int .i64 o.id, .int .i64 o.kind, .slice p1 o.links.length c1, .string o.text]) ?_ rfl ?_
  · have x0 := block_cell (j := 0) Hs4.out rfl
    have x1 := block_cell (j := 1) Hs4.out rfl
    have x2 := block_cell (j := 2) Hs4.out rfl
    have x3 := block_cell (j := 3) Hs4.out rfl
    clear HO HB Hs4 d0 d1 d2 d3 e0 e1 e2 e3
    generalize set4 (w.heap.size + 1) (.int .i64 o.id) (.int .i64 o.kind) (.slice p1 o.links.length c1) (.string o.text) (w1.setCell ⟨w.heap.size, 2, none⟩ (.slice p1 o.links.length c1)) = wf at *
    simp [results, Try.results67, go_sem, *]
  · exact ⟨_, rfl, HO.out, HB.out⟩

/-- the links that a function follows come back -/
def Follows (g : Nat) (par : Bool) : Prop := ∀ (o : Obj) (lv : Value) (S : Nat → Prop) (w : World), ObjIs S w o lv → (par = true → 0 < o.links.length) →
  Calls Try.prog g #[.agg #[.int .i64 o.id, .int .i64 o.kind, lv, .string o.text]] w fun e w' => ∃ v, e = .returned v ∧ IntsV S w' v (follow o par) ∧ Below w.heap.size w w'

set_option maxHeartbeats 400000 in
theorem all_any : Follows 66 false := by
  intro o lv S w ho _
  obtain ⟨⟨p, c⟩, rfl⟩ := ho.1.shape
  obtain ⟨R, hR, hR1, x0, x1, x2, x3⟩ := cls_box4 w (.int .i64 o.id) (.int .i64 o.kind) (.slice p o.links.length c) (.string o.text) 24
  have hbw := hR.below _ hR1
  have HO := Lib.hid (ho.1.below hbw)
  go_enter Try.func66, Try.ntmps66
  go_wp2_with fail
  go_ret
  exact ⟨_, rfl, HO.out, hbw⟩

theorem ints_drop {S : Nat → Prop} {w : World} {a : Option Addr} {n cap : Nat} {xs : List Int} (h : IntsV S w (.slice a n cap) xs) (hn : 0 < xs.length) :
    ∃ b off, a = some ⟨b, off, none⟩ ∧ n = xs.length ∧ IntsV S w (.slice (some ⟨b, off + 1, none⟩) (n - 1) (cap - 1)) (xs.drop 1) := by
  obtain ⟨⟨a', cap', hv, h1, h2, h3, h4⟩, h5⟩ := h
  cases hv
  obtain ⟨b, off, ha, hS, hc⟩ := h4 hn
  have hl : (xs.drop 1).length = xs.length - 1 := by simp
  refine ⟨b, off, ha, rfl, ⟨⟨_, cap - 1, by rw [hl], by omega, by omega, by omega, fun hp => ⟨b, off + 1, rfl, hS, fun i hi j u hu => ?_⟩⟩, fun x hx => h5 x (List.mem_of_mem_drop hx)⟩⟩
  have hx : nth (xs.drop 1) i = nth xs (i + 1) := by
    unfold nth at_; simp only [List.getD_eq_getElem?_getD, List.getElem?_drop]; rw [Nat.add_comm]
  have hu' : [Value.int .i64 (nth (xs.drop 1) i)][j]? = some u := hu
  rw [hx] at hu'
  have := hc (i + 1) (by omega) j u hu'
  rw [show off + 1 + i * 1 + j = off + (i + 1) * 1 + j by omega]; exact this

set_option maxHeartbeats 400000 in
theorem parents_any : Follows 90 true := by
  intro o lv S w ho hl
  have hl := hl rfl
  obtain ⟨⟨p, c⟩, rfl⟩ := ho.1.shape
  have hcap : o.links.length ≤ c := by obtain ⟨⟨_, _, hv, h, _⟩, _⟩ := ho.1; cases hv; exact h
  have hcap2 : c ≤ 9223372036854775807 := by obtain ⟨⟨_, _, hv, _, h, _⟩, _⟩ := ho.1; cases hv; exact h
  obtain ⟨b, off, hp, _, hd⟩ := ints_drop ho.1 hl
  simp only at hp
  subst hp
  obtain ⟨R, hR, hR1, x0, x1, x2, x3⟩ := cls_box4 w (.int .i64 o.id) (.int .i64 o.kind) (.slice (some ⟨b, off, none⟩) o.links.length c) (.string o.text) 24
  have hbw := hR.below _ hR1
  have HO := Lib.hid (hd.below hbw)
  clear hd
  generalize hn : o.links.length = n at *
  have Hn := Lib.hid hn; clear hn
  have hi1 : (1 : Int) ≤ (n : Int) := by omega
  by_cases hc1 : c = 1
  · subst hc1
    have hn1 : n = 1 := by omega
    subst hn1
    have HN := Lib.hid (show follow o true = [] from List.drop_eq_nil_of_le (by rw [Hn.out]; exact Nat.le_refl _))
    go_enter Try.func90, Try.ntmps90
    go_wp2_with fail
    go_ret
    exact ⟨_, rfl, by rw [HN.out]; exact IntsV.nil _ _ _ _ (by omega), hbw⟩
  · go_enter Try.func90, Try.ntmps90
    go_wp2_with fail
    go_ret
    exact ⟨_, rfl, HO.out, hbw⟩
end Go.Proofs.Ytcppgkhkijejoaa
