
/- The rows' frame: a law's arguments, as the statement reads them, are plain Lean data. -/
import Derived.Test.YtkaoldnhooojiaaGreatDoorRows
import Derived.Test.YtkaoldnhooojiaaGreatDoorBase
import Derived.ProofKit
import Derived.SizedLaws
import Derived.OpenShut
import Derived.Lib.SmallJoins
import Derived.Deep.Slices
namespace Go.Proofs.YtkaoldnhooojiaaGreatDoor
open Go.ChangeShapes Go.WideShapes Go.ChangeAt Go.RowKit Go.Deep
set_option linter.unusedVariables false
set_option linter.unusedSimpArgs false

theorem row_own : ownKnob Tryz.prog.godebug = none := by kernel_rfl
theorem row_laidOut : laidOutB Tryz.prog = true := by kernel_rfl
theorem cells_int : Tryz.prog.cellsOf 3 = 1 := by kernel_rfl
theorem bytes_int : Tryz.prog.bytesOf 3 = 8 := by kernel_rfl
theorem cells_object : Tryz.prog.cellsOf 89 = 4 := by kernel_rfl
theorem bytes_object : Tryz.prog.bytesOf 89 = 56 := by kernel_rfl

section
variable {H : Type} {enc : TypeId × Value → H} {W : World} {base : Nat}

/-- what the sizes of the statement say -/
def Fits (t : TypeId) (d : DataW H) : Prop := ∀ n ∈ d.weights Tryz.prog t, n ≤ 140737488351232

theorem fits_each {ts : List TypeId} {ds : List (DataW H)} (h : (DataW.weightsEach Tryz.prog ts ds).all (· ≤ reachBytes) = true) (j : Nat) {t : TypeId} {d : DataW H} (ht : ts[j]? = some t) (hd : ds[j]? = some d) : Fits t d := by
  intro n hn
  have := List.all_eq_true.1 h _ (DataW.weights_mem_each ht hd n hn)
  have h2 : n ≤ reachBytes := of_decide_eq_true this
  exact h2

theorem open_intsV {fuel : Nat} {v : Value} {x : DataW H × List MemPlace} (hf : DataW.trod enc Tryz.prog W base (fun _ => true) true fuel 87 [v] = some x) (hw : Fits 87 x.1) :
    ∃ xs, IntsV (fun b => b < W.heap.size) W v xs := by
  rcases open_ints Tryz.underlying87 Tryz.underlying3 cells_int hf with ⟨hcs, _⟩ | ⟨a, len, cap, zs, hcs, _, hl, hm, hz, hx, hcell, hwz⟩
  · simp at hcs; subst hcs
    exact ⟨[], IntsV.nil _ _ _ _ (by omega)⟩
  · simp at hcs; subst hcs
    simp only [if_true] at hz
    have hm' : cap ≤ 9223372036854775807 := by simpa [maxLen] using hm
    have h8 : (zs.take len).length = len := by simp; omega
    have hb : len * 8 ≤ 140737488351232 := by
      have := hw ((((lits (H := H) .i64 (zs.take len)).length + (lits (H := H) .i64 (zs.drop len)).length)) * 8) (by
        subst hx; simp only [DataW.weights, Tryz.underlying87, bytes_int]; exact List.mem_cons_self)
      simp only [lits, List.length_map, List.length_take, List.length_drop] at this
      omega
    refine ⟨zs.take len, ?_⟩
    by_cases h0 : len = 0
    · subst h0; simp only [List.take_zero]; exact IntsV.nil _ _ _ _ hm'
    obtain ⟨b, off, spot⟩ := a
    have hspot : spot = none := by simpa [Addr.add] using World.cell?_spot (hcell 0 (by omega))
    subst hspot
    have hbl : b < W.heap.size := World.block_lt_of_cell? W _ (hcell 0 (by omega))
    have := IntsV.mk (S := fun b => b < W.heap.size) (w := W) (xs := zs.take len) (b := b) (off := off) (cap := cap) (by omega) hm' (by omega) hbl (fun i hi => by
      have h1 := hcell i (by omega)
      have h2 : (zs.take len)[i]? = zs[i]? := by rw [List.getElem?_take]; simp; omega
      have h3 : nth (zs.take len) i = zs.getD i 0 := by unfold nth at_; simp only [List.getD_eq_getElem?_getD, h2]
      rw [h3]; rw [← add_plain]; exact h1) (fun z hz => by
      have := hwz z (List.mem_of_mem_take hz)
      have h1 : IntKind.i64.min = -9223372036854775808 := rfl
      have h2 : IntKind.i64.max = 9223372036854775807 := rfl
      simp only [Lit.wf, Bool.and_eq_true, decide_eq_true_eq] at this
      unfold I64; omega)
    rw [h8] at this
    exact this

theorem wf_i64 {n : Int} (h : (Lit.int .i64 n).wf = true) : I64 n := by
  have h1 : IntKind.i64.min = -9223372036854775808 := rfl
  have h2 : IntKind.i64.max = 9223372036854775807 := rfl
  simp only [Lit.wf, Bool.and_eq_true, decide_eq_true_eq] at h
  unfold I64; omega

/-- the four cells of an object -/
theorem open_cells {n : Nat} {c0 c1 c2 c3 : Value} {y0 y1 y2 y3 : DataW H × List MemPlace}
    (h0 : DataW.trod enc Tryz.prog W base (fun _ => true) true n 3 [c0] = some y0) (h1 : DataW.trod enc Tryz.prog W base (fun _ => true) true n 3 [c1] = some y1)
    (h2 : DataW.trod enc Tryz.prog W base (fun _ => true) true n 87 [c2] = some y2) (h3 : DataW.trod enc Tryz.prog W base (fun _ => true) true n 9 [c3] = some y3)
    (hw : Fits 89 (.agg [y0.1, y1.1, y2.1, y3.1])) :
    ∃ o : Obj, c0 = .int .i64 o.id ∧ c1 = .int .i64 o.kind ∧ c3 = .string o.text ∧ ObjIs (fun b => b < W.heap.size) W o c2 := by
  have hw2 : Fits 87 y2.1 := fun m hm => hw m (by
    simp only [DataW.weights, Tryz.underlying89, DataW.weightsEach, List.map_cons, List.map_nil, List.mem_append]; exact Or.inr (Or.inr (Or.inl hm)))
  have hw3 : Fits 9 y3.1 := fun m hm => hw m (by
    simp only [DataW.weights, Tryz.underlying89, DataW.weightsEach, List.map_cons, List.map_nil, List.mem_append]; exact Or.inr (Or.inr (Or.inr (Or.inl hm))))
  obtain ⟨i0, e0, _, w0⟩ := DataW.trod_int Tryz.underlying3 h0
  obtain ⟨i1, e1, _, w1⟩ := DataW.trod_int Tryz.underlying3 h1
  obtain ⟨s, e3, hy3, _⟩ := DataW.trod_string Tryz.underlying9 h3
  obtain ⟨xs, hxs⟩ := open_intsV h2 hw2
  simp at e0 e1 e3
  subst e0; subst e1; subst e3
  refine ⟨⟨i0, i1, xs, s⟩, rfl, rfl, rfl, hxs, wf_i64 w0, wf_i64 w1, ?_⟩
  have := hw3 s.data.toList.length (by subst hy3; simp [DataW.weights])
  simpa using this

set_option maxRecDepth 100000 in
theorem open_object {r : Reach} {b0 : Nat} {v : Value} {d : DataW H} {p : List MemPlace} (hv : Value.okWide Tryz.prog W r b0 89 v)
    (h : DataW.Trod enc Tryz.prog W base (fun _ => true) true 89 v d p) (hw : Fits 89 d) :
    ∃ (o : Obj) (lv : Value), v = .agg #[.int .i64 o.id, .int .i64 o.kind, lv, .string o.text] ∧ ObjIs (fun b => b < W.heap.size) W o lv := by
  obtain ⟨c0, c1, c2, c3, y0, y1, y2, y3, n, rfl, rfl, _, h0, h1, h2, h3⟩ := Joins.open_agg4 Tryz.underlying89 (by kernel_rfl) cells_object hv h
  obtain ⟨o, rfl, rfl, rfl, ho⟩ := open_cells h0 h1 h2 h3 hw
  exact ⟨o, c2, rfl, ho⟩
end

end Go.Proofs.YtkaoldnhooojiaaGreatDoor
