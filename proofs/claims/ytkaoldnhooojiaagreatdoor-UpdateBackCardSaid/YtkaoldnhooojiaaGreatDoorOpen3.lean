
/- The rows' frame: updates, a push and a replica as arguments. -/
import Derived.Test.YtkaoldnhooojiaaGreatDoorOpen2
import Derived.Test.YtkaoldnhooojiaaGreatDoorRepV
import Derived.Deep.Strs
namespace Go.Proofs.YtkaoldnhooojiaaGreatDoor
open Go.ChangeShapes Go.WideShapes Go.ChangeAt Go.RowKit Go.Deep
set_option linter.unusedVariables false
set_option linter.unusedSimpArgs false

theorem cells_bool : Tryz.prog.cellsOf 4 = 1 := by kernel_rfl
theorem cells_refs : Tryz.prog.cellsOf 22 = 1 := by kernel_rfl
theorem cells_objects : Tryz.prog.cellsOf 23 = 1 := by kernel_rfl
theorem cells_updates : Tryz.prog.cellsOf 24 = 1 := by kernel_rfl
theorem cells_update : Tryz.prog.cellsOf 36 = 3 := by kernel_rfl
theorem bytes_update : Tryz.prog.bytesOf 36 = 32 := by kernel_rfl
theorem cells_push : Tryz.prog.cellsOf 46 = 3 := by kernel_rfl
theorem cells_replica : Tryz.prog.cellsOf 48 = 7 := by kernel_rfl

section
variable {H : Type} {enc : TypeId × Value → H} {W : World} {base : Nat}

theorem trod_struct5 {P : Program} {spare : Nat → Bool} {held : Bool} {t : TypeId} {f0 f1 f2 f3 f4 : Field} {fuel : Nat} {cs : List Value} {x : DataW H × List MemPlace} (ht : P.underlying t = some (.struct #[f0, f1, f2, f3, f4])) (h : DataW.trod enc P W base spare held fuel t cs = some x) :
    ∃ y0 y1 y2 y3 y4 n, x = (.agg [y0.1, y1.1, y2.1, y3.1, y4.1], y0.2 ++ (y1.2 ++ (y2.2 ++ (y3.2 ++ y4.2)))) ∧ cs.length = P.cellsOf t ∧ DataW.trod enc P W base spare held n f0.type ((cs.drop f0.offset).take (P.cellsOf f0.type)) = some y0 ∧
      DataW.trod enc P W base spare held n f1.type ((cs.drop f1.offset).take (P.cellsOf f1.type)) = some y1 ∧ DataW.trod enc P W base spare held n f2.type ((cs.drop f2.offset).take (P.cellsOf f2.type)) = some y2 ∧
      DataW.trod enc P W base spare held n f3.type ((cs.drop f3.offset).take (P.cellsOf f3.type)) = some y3 ∧ DataW.trod enc P W base spare held n f4.type ((cs.drop f4.offset).take (P.cellsOf f4.type)) = some y4 := by
  obtain ⟨xs, n, _, rfl, hl, hlen, hf⟩ := DataW.trod_struct ht h
  match xs, hlen with
  | [y0, y1, y2, y3, y4], _ => exact ⟨y0, y1, y2, y3, y4, n, by simp, hl, by simpa using hf 0 f0 rfl, by simpa using hf 1 f1 rfl, by simpa using hf 2 f2 rfl, by simpa using hf 3 f3 rfl, by simpa using hf 4 f4 rfl⟩

theorem open_updates {fuel : Nat} {v : Value} {x : DataW H × List MemPlace} (hf : DataW.trod enc Tryz.prog W base (fun _ => true) true fuel 24 [v] = some x) (hw : Fits 24 x.1) :
    ∃ l, MvsV (fun b => b < W.heap.size) W v l := by
  haveI : Inhabited Mv := ⟨mv0⟩
  obtain ⟨xs, css, h1, h2⟩ := open_rows Tryz.underlying24 cells_update (by decide) bytes_update (by decide) (fun (r : Mv) cs => cs = mvCells r ∧ I64 r.old ∧ I64 r.new ∧ r.name.size ≤ 140737488351232) (fun n cs' y hy hl hfit => by
    match cs', hl with
    | [c0, c1, c2], _ =>
      obtain ⟨y0, y1, y2, m, hx, _, h0, h1, h2⟩ := trod_struct3 Tryz.underlying36 hy
      simp only [List.drop_zero, cells_string, cells_int, List.take_succ_cons, List.take_zero, List.drop_succ_cons] at h0 h1 h2
      obtain ⟨s, e0, hy0, _⟩ := DataW.trod_string Tryz.underlying9 h0
      obtain ⟨i, e1, _, w1⟩ := DataW.trod_int Tryz.underlying3 h1
      obtain ⟨j, e2, _, w2⟩ := DataW.trod_int Tryz.underlying3 h2
      simp at e0 e1 e2
      subst e0; subst e1; subst e2; subst hx
      refine ⟨⟨s, i, j⟩, rfl, wf_i64 w1, wf_i64 w2, ?_⟩
      have := hfit s.data.toList.length (by
        simp only [DataW.weights, Tryz.underlying36, DataW.weightsEach, List.map_cons, List.map_nil, List.mem_append]
        subst hy0; exact .inl (by simp [DataW.weights]))
      simpa using this) hf hw
  have he : ∀ i, i < xs.length → css i = mvCells (mv xs i) := fun i hi => by rw [mv_lt hi]; exact (h2 i hi).1
  refine ⟨xs, ?_, fun r hr => ?_⟩
  · obtain ⟨a, cap, hv, g1, g2, g3, g4⟩ := h1
    refine ⟨a, cap, hv, g1, g2, g3, fun hn => ?_⟩
    obtain ⟨b, off, ha, hS, hc⟩ := g4 hn
    exact ⟨b, off, ha, hS, fun i hi j u hu => hc i hi j u (by rw [he i hi]; exact hu)⟩
  · obtain ⟨i, hi, rfl⟩ := List.getElem_of_mem hr
    exact (h2 i hi).2

/-- the three cells of a push -/
theorem open_pushCells {fuel : Nat} {c0 c1 c2 : Value} {x : DataW H × List MemPlace} (hf : DataW.trod enc Tryz.prog W base (fun _ => true) true fuel 46 [c0, c1, c2] = some x) (hw : Fits 46 x.1) :
    ∃ p : Psh, c2 = .bool p.force ∧ StoreV (fun b => b < W.heap.size) W c0 p.objects ∧ MvsV (fun b => b < W.heap.size) W c1 p.updates := by
  obtain ⟨y0, y1, y2, m, hx, _, h0, h1, h2⟩ := trod_struct3 Tryz.underlying46 hf
  simp only [List.drop_zero, cells_objects, cells_updates, cells_bool, List.take_succ_cons, List.take_zero, List.drop_succ_cons] at h0 h1 h2
  subst hx
  obtain ⟨l, hl⟩ := open_store h0 (fun n hn => hw n (by
    simp only [DataW.weights, Tryz.underlying46, DataW.weightsEach, List.map_cons, List.map_nil, List.mem_append]; exact .inl hn))
  obtain ⟨us, hus⟩ := open_updates h1 (fun n hn => hw n (by
    simp only [DataW.weights, Tryz.underlying46, DataW.weightsEach, List.map_cons, List.map_nil, List.mem_append]; exact .inr (.inl hn)))
  obtain ⟨b, e2, _⟩ := DataW.trod_bool Tryz.underlying4 h2
  simp at e2
  subst e2
  exact ⟨⟨l, us, b⟩, rfl, hl, hus⟩

set_option maxRecDepth 100000 in
theorem open_push {r : Reach} {b0 : Nat} {v : Value} {d : DataW H} {p : List MemPlace} (hv : Value.okWide Tryz.prog W r b0 46 v)
    (h : DataW.Trod enc Tryz.prog W base (fun _ => true) true 46 v d p) (hw : Fits 46 d) :
    ∃ (q : Psh) (ov uv : Value), v = pshV q ov uv ∧ StoreV (fun b => b < W.heap.size) W ov q.objects ∧ MvsV (fun b => b < W.heap.size) W uv q.updates := by
  obtain ⟨cs, rfl, hsz⟩ := okWide_struct Tryz.underlying46 hv
  obtain ⟨c0, c1, c2, rfl⟩ := Joins.array3 (hsz.trans cells_push)
  obtain ⟨fuel, hf⟩ := h
  obtain ⟨q, rfl, h0, h1⟩ := open_pushCells (x := (d, p)) (by simpa [Value.cells] using hf) hw
  exact ⟨q, c0, c1, rfl, h0, h1⟩

theorem array7 {α : Type} {cs : Array α} (h : cs.size = 7) : ∃ c0 c1 c2 c3 c4 c5 c6, cs = #[c0, c1, c2, c3, c4, c5, c6] := by
  obtain ⟨l⟩ := cs
  match l, h with
  | [c0, c1, c2, c3, c4, c5, c6], _ => exact ⟨c0, c1, c2, c3, c4, c5, c6, rfl⟩

/-- the seven cells of a replica -/
theorem open_repCells {fuel : Nat} {c0 c1 c2 c3 c4 c5 c6 : Value} {x : DataW H × List MemPlace} (hf : DataW.trod enc Tryz.prog W base (fun _ => true) true fuel 48 [c0, c1, c2, c3, c4, c5, c6] = some x) (hw : Fits 48 x.1) :
    ∃ q : Rep, c2 = .int .i64 q.gen ∧ c3 = .int .i64 q.phase ∧ c6 = .bool q.pend.force ∧ RepIs (fun b => b < W.heap.size) W q c0 c1 c4 c5 := by
  obtain ⟨y0, y1, y2, y3, y4, m, hx, _, h0, h1, h2, h3, h4⟩ := trod_struct5 Tryz.underlying48 hf
  simp only [List.drop_zero, cells_objects, cells_refs, cells_int, cells_push, List.take_succ_cons, List.take_zero, List.drop_succ_cons] at h0 h1 h2 h3 h4
  subst hx
  obtain ⟨l, hl⟩ := open_store h0 (fun n hn => hw n (by
    simp only [DataW.weights, Tryz.underlying48, DataW.weightsEach, List.map_cons, List.map_nil, List.mem_append]; exact .inl hn))
  obtain ⟨rs, hrs⟩ := open_refs h1 (fun n hn => hw n (by
    simp only [DataW.weights, Tryz.underlying48, DataW.weightsEach, List.map_cons, List.map_nil, List.mem_append]; exact .inr (.inl hn)))
  obtain ⟨g, e2, _, w2⟩ := DataW.trod_int Tryz.underlying3 h2
  obtain ⟨f, e3, _, w3⟩ := DataW.trod_int Tryz.underlying3 h3
  simp at e2 e3
  subst e2; subst e3
  obtain ⟨q, rfl, hq0, hq1⟩ := open_pushCells h4 (fun n hn => hw n (by
    simp only [DataW.weights, Tryz.underlying48, DataW.weightsEach, List.map_cons, List.map_nil, List.mem_append]; exact .inr (.inr (.inr (.inr (.inl hn))))))
  exact ⟨⟨l, rs, g, f, q⟩, rfl, rfl, rfl, ⟨hl, hrs, hq0, hq1, wf_i64 w2, wf_i64 w3⟩⟩

set_option maxRecDepth 100000 in
theorem open_replica {r : Reach} {b0 : Nat} {v : Value} {d : DataW H} {p : List MemPlace} (hv : Value.okWide Tryz.prog W r b0 48 v)
    (h : DataW.Trod enc Tryz.prog W base (fun _ => true) true 48 v d p) (hw : Fits 48 d) :
    ∃ (q : Rep) (sv rv ov uv : Value), v = repV q sv rv ov uv ∧ RepIs (fun b => b < W.heap.size) W q sv rv ov uv := by
  obtain ⟨cs, rfl, hsz⟩ := okWide_struct Tryz.underlying48 hv
  obtain ⟨c0, c1, c2, c3, c4, c5, c6, rfl⟩ := array7 (hsz.trans cells_replica)
  obtain ⟨fuel, hf⟩ := h
  obtain ⟨q, rfl, rfl, rfl, h0⟩ := open_repCells (x := (d, p)) (by simpa [Value.cells] using hf) hw
  exact ⟨q, c0, c1, c4, c5, rfl, h0⟩
end

end Go.Proofs.YtkaoldnhooojiaaGreatDoor
