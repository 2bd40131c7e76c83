
/- The rows' frame: slices of structs as arguments. -/
import Derived.Test.YtkaoldnhooojiaaGreatDoorOpen
import Derived.Test.YtkaoldnhooojiaaGreatDoorBase
namespace Go.Proofs.YtkaoldnhooojiaaGreatDoor
open Go.ChangeShapes Go.WideShapes Go.ChangeAt Go.RowKit Go.Deep
set_option linter.unusedVariables false
set_option linter.unusedSimpArgs false

theorem cells_string : Tryz.prog.cellsOf 9 = 1 := by kernel_rfl
theorem cells_ints : Tryz.prog.cellsOf 87 = 1 := by kernel_rfl
theorem cells_ref : Tryz.prog.cellsOf 40 = 2 := by kernel_rfl
theorem bytes_ref : Tryz.prog.bytesOf 40 = 24 := by kernel_rfl

section
variable {H : Type} {enc : TypeId × Value → H} {W : World} {base : Nat}

theorem trodAll_four {P : Program} {spare : Nat → Bool} {held : Bool} {t0 t1 t2 t3 : TypeId} {args : Array Value} {ds : List (DataW H)} {ps : List MemPlace} (h : DataW.TrodAll enc P W base spare held [t0, t1, t2, t3] args.toList ds ps) :
    ∃ v0 v1 v2 v3 d0 d1 d2 d3 p0 p1 p2 p3, args = #[v0, v1, v2, v3] ∧ ds = [d0, d1, d2, d3] ∧ ps = p0 ++ p1 ++ p2 ++ p3 ∧ DataW.Trod enc P W base spare held t0 v0 d0 p0 ∧ DataW.Trod enc P W base spare held t1 v1 d1 p1 ∧ DataW.Trod enc P W base spare held t2 v2 d2 p2 ∧ DataW.Trod enc P W base spare held t3 v3 d3 p3 := by
  obtain ⟨v0, vs, d0, ds', p0, q, hargs, rfl, rfl, hd0, hrest⟩ := trodAll_cons h
  obtain ⟨v1, vs1, d1, ds1, p1, q1, rfl, rfl, rfl, hd1, hrest1⟩ := trodAll_cons hrest
  obtain ⟨v2, vs2, d2, ds2, p2, q2, rfl, rfl, rfl, hd2, hrest2⟩ := trodAll_cons hrest1
  obtain ⟨v3, vs3, d3, ds3, p3, q3, rfl, rfl, rfl, hd3, hrest3⟩ := trodAll_cons hrest2
  obtain ⟨rfl, rfl, rfl⟩ := trodAll_nil hrest3
  exact ⟨v0, v1, v2, v3, d0, d1, d2, d3, p0, p1, p2, p3, by cases args; simp_all, rfl, by simp, hd0, hd1, hd2, hd3⟩

theorem add_off (b off i : Nat) : (⟨b, off, none⟩ : Addr).add i = ⟨b, off + i, none⟩ := by
  unfold Addr.add; split <;> simp_all

theorem weights_all {e : TypeId} {l : List (DataW H)} {d : DataW H} {n : Nat} (hd : d ∈ l) (hn : n ∈ d.weights Tryz.prog e) : n ∈ DataW.weightsAll Tryz.prog e l := by
  induction l with
  | nil => cases hd
  | cons a l ih =>
    rw [DataW.weightsAll, List.mem_append]
    rcases List.mem_cons.1 hd with rfl | hd
    · exact .inl hn
    · exact .inr (ih hd)

/-- a slice, opened at every element -/
theorem open_rows {α : Type} [Inhabited α] {t e : TypeId} {k bts : Nat} (ht : Tryz.prog.underlying t = some (.slice e)) (hk : Tryz.prog.cellsOf e = k) (hk0 : 0 < k) (hbt : Tryz.prog.bytesOf e = bts) (hb0 : 0 < bts) (E : α → List Value → Prop)
    (hE : ∀ n cs' y, DataW.trod enc Tryz.prog W base (fun _ => true) true n e cs' = some y → cs'.length = k → Fits e y.1 → ∃ x, E x cs')
    {fuel : Nat} {v : Value} {x : DataW H × List MemPlace} (hf : DataW.trod enc Tryz.prog W base (fun _ => true) true fuel t [v] = some x) (hw : Fits t x.1) :
    ∃ (xs : List α) (css : Nat → List Value), Sl (fun b => b < W.heap.size) W v k bts xs.length css ∧ ∀ i (hi : i < xs.length), E xs[i] (css i) := by
  rcases open_slice ht hf with ⟨hcs, _⟩ | ⟨a, len, cap, m, n, D, Pl, hcs, hbase, hl, hm, hmm, hx, hel⟩
  · simp at hcs; subst hcs
    exact ⟨[], fun _ => [], ⟨none, 0, rfl, Nat.le_refl _, by omega, by simp, fun h => absurd h (by simp)⟩, fun i hi => by simp at hi⟩
  · simp at hcs; subst hcs
    simp only [if_true] at hmm
    subst hmm
    have hm' : m ≤ 9223372036854775807 := by simpa [maxLen] using hm
    rw [hk] at hel
    have hlen : len * bts ≤ 140737488351232 := by
      have := hw ((len + (m - len)) * bts) (by
        subst hx; simp only [DataW.weights, ht, hbt, List.length_map, List.length_range]; exact List.mem_cons_self)
      have : len * bts ≤ (len + (m - len)) * bts := Nat.mul_le_mul_right _ (by omega)
      omega
    have hfit : ∀ i, i < len → Fits e (D i) := fun i hi n hn => hw n (by
      subst hx
      simp only [DataW.weights, ht]
      refine List.mem_cons_of_mem _ (List.mem_append_left _ ?_)
      exact weights_all (List.mem_map.2 ⟨i, by simpa using hi, rfl⟩) hn)
    have hch : ∀ i, i < len → ∃ p : α × List Value, W.cells? base (a.add (i * k)) k = some p.2 ∧ E p.1 p.2 := fun i hi => by
      obtain ⟨cs', h1, h2⟩ := hel i (by omega)
      obtain ⟨y, hy⟩ := hE n cs' _ h2 (World.cells?_some h1).2.1 (hfit i hi)
      exact ⟨(y, cs'), h1, hy⟩
    obtain ⟨f, hf2⟩ := choose_lt hch
    refine ⟨(List.range len).map fun i => (f i).1, fun i => (f i).2, ?_, fun i hi => ?_⟩
    · rw [List.length_map, List.length_range]
      refine ⟨some a, m, rfl, hl, hm', hlen, fun hp => ?_⟩
      obtain ⟨b, off, spot⟩ := a
      have h0 := (World.cells?_some (hf2 0 hp).1)
      have h00 := h0.2.2 0 hk0
      rw [List.getElem?_eq_getElem (by rw [h0.2.1]; exact hk0)] at h00
      have hspot : spot = none := by simpa [Addr.add] using World.cell?_spot h00
      subst hspot
      refine ⟨b, off, rfl, ?_, fun i hi j u hu => ?_⟩
      · have := World.block_lt_of_cell? W _ h00
        simpa [Addr.add] using this
      · have hi2 := World.cells?_some (hf2 i hi).1
        have hj : j < k := by
          rcases Nat.lt_or_ge j (f i).2.length with h' | h'
          · rw [← hi2.2.1]; exact h'
          · have hu' : (f i).2[j]? = some u := hu
            rw [List.getElem?_eq_none h'] at hu'; cases hu'
        have := hi2.2.2 j hj
        rw [add_off, add_off] at this
        rw [this]; exact hu
    · simp only [List.length_map, List.length_range] at hi
      simp only [List.getElem_map, List.getElem_range]
      exact (hf2 i hi).2

theorem open_refs {fuel : Nat} {v : Value} {x : DataW H × List MemPlace} (hf : DataW.trod enc Tryz.prog W base (fun _ => true) true fuel 22 [v] = some x) (hw : Fits 22 x.1) :
    ∃ l, RefsV (fun b => b < W.heap.size) W v l := by
  haveI : Inhabited Rf := ⟨rf0⟩
  obtain ⟨xs, css, h1, h2⟩ := open_rows Tryz.underlying22 cells_ref (by decide) bytes_ref (by decide) (fun (r : Rf) cs => cs = [.string r.name, .int .i64 r.id] ∧ I64 r.id ∧ r.name.size ≤ 140737488351232) (fun n cs' y hy hl hfit => by
    match cs', hl with
    | [c0, c1], _ =>
      obtain ⟨y0, y1, m, hx, _, h0, h1⟩ := trod_struct2 Tryz.underlying40 hy
      simp only [List.drop_zero, cells_string, cells_int, List.take_succ_cons, List.take_zero, List.drop_succ_cons] at h0 h1
      obtain ⟨s, e0, hy0, _⟩ := DataW.trod_string Tryz.underlying9 h0
      obtain ⟨i, e1, _, w1⟩ := DataW.trod_int Tryz.underlying3 h1
      simp at e0 e1
      subst e0; subst e1; subst hx
      refine ⟨⟨s, i⟩, rfl, wf_i64 w1, ?_⟩
      have := hfit s.data.toList.length (by
        simp only [DataW.weights, Tryz.underlying40, DataW.weightsEach, List.map_cons, List.map_nil, List.mem_append]
        subst hy0; exact .inl (by simp [DataW.weights]))
      simpa using this) hf hw
  have he : ∀ i, i < xs.length → css i = [.string (rf xs i).name, .int .i64 (rf xs i).id] := fun i hi => by rw [rf_lt hi]; exact (h2 i hi).1
  refine ⟨xs, ?_, fun r hr => ?_⟩
  · obtain ⟨a, cap, hv, g1, g2, g3, g4⟩ := h1
    refine ⟨a, cap, hv, g1, g2, g3, fun hn => ?_⟩
    obtain ⟨b, off, ha, hS, hc⟩ := g4 hn
    exact ⟨b, off, ha, hS, fun i hi j u hu => hc i hi j u (by rw [he i hi]; exact hu)⟩
  · obtain ⟨i, hi, rfl⟩ := List.getElem_of_mem hr
    exact (h2 i hi).2

theorem open_store {fuel : Nat} {v : Value} {x : DataW H × List MemPlace} (hf : DataW.trod enc Tryz.prog W base (fun _ => true) true fuel 23 [v] = some x) (hw : Fits 23 x.1) :
    ∃ l, StoreV (fun b => b < W.heap.size) W v l := by
  haveI : Inhabited Obj := ⟨obj0⟩
  obtain ⟨xs, css, h1, h2⟩ := open_rows Tryz.underlying23 cells_object (by decide) bytes_object (by decide) (fun (o : Obj) cs => ∃ lv, cs = objCells o lv ∧ ObjIs (fun b => b < W.heap.size) W o lv) (fun n cs' y hy hl hfit => by
    match cs', hl with
    | [c0, c1, c2, c3], _ =>
      obtain ⟨y0, y1, y2, y3, m, hx, _, h0, h1, h2, h3⟩ := Joins.trod_struct4 Tryz.underlying89 hy
      simp only [List.drop_zero, cells_string, cells_int, cells_ints, List.take_succ_cons, List.take_zero, List.drop_succ_cons] at h0 h1 h2 h3
      subst hx
      obtain ⟨o, rfl, rfl, rfl, ho⟩ := open_cells h0 h1 h2 h3 hfit
      exact ⟨o, c2, rfl, ho⟩) hf hw
  obtain ⟨lvs, hlv⟩ := choose_lt (p := fun i lv => css i = objCells (obj xs i) lv ∧ ObjIs (fun b => b < W.heap.size) W (obj xs i) lv) (n := xs.length) (fun i hi => by
    obtain ⟨lv, e, ho⟩ := h2 i hi
    rw [obj_lt hi]; exact ⟨lv, e, ho⟩)
  refine ⟨xs, lvs, ?_, fun i hi => (hlv i hi).2⟩
  obtain ⟨a, cap, hv, g1, g2, g3, g4⟩ := h1
  refine ⟨a, cap, hv, g1, g2, g3, fun hn => ?_⟩
  obtain ⟨b, off, ha, hS, hc⟩ := g4 hn
  exact ⟨b, off, ha, hS, fun i hi j u hu => hc i hi j u (by rw [(hlv i hi).1]; exact hu)⟩
end

end Go.Proofs.YtkaoldnhooojiaaGreatDoor
