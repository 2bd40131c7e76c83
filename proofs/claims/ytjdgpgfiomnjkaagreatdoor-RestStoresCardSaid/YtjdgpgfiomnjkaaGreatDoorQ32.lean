
/- Open: Open, Open2, Open3. -/
import Derived.Test.YtjdgpgfiomnjkaaGreatDoorRows
import Derived.Test.YtjdgpgfiomnjkaaGreatDoorQ0
import Derived.ProofKit
import Derived.SizedLaws
import Derived.OpenShut
import Derived.Lib.SmallJoins
import Derived.Deep.Slices
import Derived.Test.YtjdgpgfiomnjkaaGreatDoorQ17
import Derived.Deep.Strs
import Derived.SevenTiedAt
import Derived.Test.YtjdgpgfiomnjkaaGreatDoorQ25
import Derived.LaidSub
import Derived.MakeChecks
import Derived.Lib.LaidTab
namespace Go.Proofs.YtjdgpgfiomnjkaaGreatDoor
open Go.ChangeShapes Go.WideShapes Go.ChangeAt Go.RowKit Go.Deep
set_option linter.unusedVariables false
set_option linter.unusedSimpArgs false
class GhostAll [Ghost] (W : World) : Prop where
 all : ∀ b, b < W.heap.size → Ghost.frz b
set_option linter.unusedSectionVars false
variable [Ghost]
theorem row_own : ownKnob Tryz.prog.godebug = none := by kernel_rfl
theorem row_laidOut : laidOutB Tryz.prog = true := by kernel_rfl
theorem cells_int : Tryz.prog.cellsOf 3 = 1 := by kernel_rfl
theorem bytes_int : Tryz.prog.bytesOf 3 = 8 := by kernel_rfl
theorem cells_object : Tryz.prog.cellsOf 46 = 4 := by kernel_rfl
theorem bytes_object : Tryz.prog.bytesOf 46 = 56 := by kernel_rfl
section
variable {H : Type} {enc : TypeId × Value → H} {W : World} [GhostAll W] {base : Nat}
def Fits (t : TypeId) (d : DataW H) : Prop := ∀ n ∈ d.weights Tryz.prog t, n ≤ 140737488351232
theorem fits_each {ts : List TypeId} {ds : List (DataW H)} (h : (DataW.weightsEach Tryz.prog ts ds).all (· ≤ reachBytes) = true) (j : Nat) {t : TypeId} {d : DataW H} (ht : ts[j]? = some t) (hd : ds[j]? = some d) : Fits t d := by
 intro n hn
 have := List.all_eq_true.1 h _ (DataW.weights_mem_each ht hd n hn)
 have h2 : n ≤ reachBytes := of_decide_eq_true this
 exact h2
theorem open_intsV {fuel : Nat} {v : Value} {x : DataW H × List MemPlace} (hf : DataW.trod enc Tryz.prog W base (fun _ => true) true fuel 44 [v] = some x) (hw : Fits 44 x.1) :
  ∃ xs, IntsV (fun b => b < W.heap.size) W v xs := by
 rcases open_ints Tryz.underlying44 Tryz.underlying3 cells_int hf with ⟨hcs, _⟩ | ⟨a, len, cap, zs, hcs, _, hl, hm, hz, hx, hcell, hwz⟩
 ·simp at hcs; subst hcs
  exact ⟨[], IntsV.nil _ _ _ _ (by omega)⟩
 ·simp at hcs; subst hcs
  simp only [if_true] at hz
  have hm' : cap ≤ 9223372036854775807 := by simpa [maxLen] using hm
  have h8 : (zs.take len).length = len := by simp; omega
  have hb : len * 8 ≤ 140737488351232 := by
   have := hw ((((lits (H := H) .i64 (zs.take len)).length + (lits (H := H) .i64 (zs.drop len)).length)) * 8) (by
    subst hx; simp only [DataW.weights, Tryz.underlying44, bytes_int]; exact List.mem_cons_self)
   simp only [lits, List.length_map, List.length_take, List.length_drop] at this
   omega
  refine ⟨zs.take len, ?_⟩
  by_cases h0 : len = 0
  ·subst h0; simp only [List.take_zero]; exact IntsV.nil _ _ _ _ hm'
  obtain ⟨b, off, spot⟩ := a
  have hspot : spot = none := by simpa [Addr.add] using World.cell?_spot (hcell 0 (by omega))
  subst hspot
  have hbl : b < W.heap.size := World.block_lt_of_cell? W _ (hcell 0 (by omega))
  have := IntsV.mk (S := fun b => b < W.heap.size) (w := W) (xs := zs.take len) (b := b) (off := off) (cap := cap) (by omega) hm' (by omega) ⟨hbl, .inl (GhostAll.all _ hbl)⟩ (fun i hi => by
   have h1 := hcell i (by omega)
   have h2 : (zs.take len)[i]? = zs[i]? := by rw [List.getElem?_take]; simp; omega
   have h3 : nth (zs.take len) i = zs.getD i 0 := by unfold nth at_; simp only [List.getD_eq_getElem?_getD, h2]
   rw [h3]; rw [← add_plain]; exact h1) (fun z hz => by
   have := hwz z (List.mem_of_mem_take hz)
   have h1 : IntKind.i64.min = -9223372036854775808 := rfl
   have h2 : IntKind.i64.max = 9223372036854775807 := rfl
   simp only [Lit.wf, Bool.and_eq_true, decide_eq_true_eq] at this
   unfold I64; omega)
  rw [h8] at this
  exact this
theorem wf_i64 {n : Int} (h : (Lit.int .i64 n).wf = true) : I64 n := by
 have h1 : IntKind.i64.min = -9223372036854775808 := rfl
 have h2 : IntKind.i64.max = 9223372036854775807 := rfl
 simp only [Lit.wf, Bool.and_eq_true, decide_eq_true_eq] at h
 unfold I64; omega
theorem open_cells {n : Nat} {c0 c1 c2 c3 : Value} {y0 y1 y2 y3 : DataW H × List MemPlace}
  (h0 : DataW.trod enc Tryz.prog W base (fun _ => true) true n 3 [c0] = some y0) (h1 : DataW.trod enc Tryz.prog W base (fun _ => true) true n 3 [c1] = some y1)
  (h2 : DataW.trod enc Tryz.prog W base (fun _ => true) true n 44 [c2] = some y2) (h3 : DataW.trod enc Tryz.prog W base (fun _ => true) true n 9 [c3] = some y3)
  (hw : Fits 46 (.agg [y0.1, y1.1, y2.1, y3.1])) :
  ∃ o : Obj, c0 = .int .i64 o.id ∧ c1 = .int .i64 o.kind ∧ c3 = .string o.text ∧ ObjIs (fun b => b < W.heap.size) W o c2 := by
 have hw2 : Fits 44 y2.1 := fun m hm => hw m (by
  simp only [DataW.weights, Tryz.underlying46, DataW.weightsEach, List.map_cons, List.map_nil, List.mem_append]; exact Or.inr (Or.inr (Or.inl hm)))
 have hw3 : Fits 9 y3.1 := fun m hm => hw m (by
  simp only [DataW.weights, Tryz.underlying46, DataW.weightsEach, List.map_cons, List.map_nil, List.mem_append]; exact Or.inr (Or.inr (Or.inr (Or.inl hm))))
 obtain ⟨i0, e0, _, w0⟩ := DataW.trod_int Tryz.underlying3 h0
 obtain ⟨i1, e1, _, w1⟩ := DataW.trod_int Tryz.underlying3 h1
 obtain ⟨s, e3, hy3, _⟩ := DataW.trod_string Tryz.underlying9 h3
 obtain ⟨xs, hxs⟩ := open_intsV h2 hw2
 simp at e0 e1 e3
 subst e0; subst e1; subst e3
 refine ⟨⟨i0, i1, xs, s⟩, rfl, rfl, rfl, hxs, wf_i64 w0, wf_i64 w1, ?_⟩
 have := hw3 s.data.toList.length (by subst hy3; simp [DataW.weights])
 simpa using this
end
end Go.Proofs.YtjdgpgfiomnjkaaGreatDoor
namespace Go.Proofs.YtjdgpgfiomnjkaaGreatDoor
open Go.ChangeShapes Go.WideShapes Go.ChangeAt Go.RowKit Go.Deep
set_option linter.unusedVariables false
set_option linter.unusedSimpArgs false
set_option linter.unusedSectionVars false
variable [Ghost]
theorem cells_string : Tryz.prog.cellsOf 9 = 1 := by kernel_rfl
theorem cells_ints : Tryz.prog.cellsOf 44 = 1 := by kernel_rfl
theorem cells_ref : Tryz.prog.cellsOf 62 = 2 := by kernel_rfl
theorem bytes_ref : Tryz.prog.bytesOf 62 = 24 := by kernel_rfl
section
variable {H : Type} {enc : TypeId × Value → H} {W : World} [GhostAll W] {base : Nat}
theorem add_off (b off i : Nat) : (⟨b, off, none⟩ : Addr).add i = ⟨b, off + i, none⟩ := by
 unfold Addr.add; split <;> simp_all
theorem weights_all {e : TypeId} {l : List (DataW H)} {d : DataW H} {n : Nat} (hd : d ∈ l) (hn : n ∈ d.weights Tryz.prog e) : n ∈ DataW.weightsAll Tryz.prog e l := by
 induction l with
 | nil => cases hd
 | cons a l ih =>
  rw [DataW.weightsAll, List.mem_append]
  rcases List.mem_cons.1 hd with rfl | hd
  ·exact .inl hn
  ·exact .inr (ih hd)
theorem open_rows {α : Type} [Inhabited α] {t e : TypeId} {k bts : Nat} (ht : Tryz.prog.underlying t = some (.slice e)) (hk : Tryz.prog.cellsOf e = k) (hk0 : 0 < k) (hbt : Tryz.prog.bytesOf e = bts) (hb0 : 0 < bts) (E : α → List Value → Prop)
  (hE : ∀ n cs' y, DataW.trod enc Tryz.prog W base (fun _ => true) true n e cs' = some y → cs'.length = k → Fits e y.1 → ∃ x, E x cs')
  {fuel : Nat} {v : Value} {x : DataW H × List MemPlace} (hf : DataW.trod enc Tryz.prog W base (fun _ => true) true fuel t [v] = some x) (hw : Fits t x.1) :
  ∃ (xs : List α) (css : Nat → List Value), Sl (fun b => b < W.heap.size) W v k bts xs.length css ∧ ∀ i (hi : i < xs.length), E xs[i] (css i) := by
 rcases open_slice ht hf with ⟨hcs, _⟩ | ⟨a, len, cap, m, n, D, Pl, hcs, hbase, hl, hm, hmm, hx, hel⟩
 ·simp at hcs; subst hcs
  exact ⟨[], fun _ => [], ⟨none, 0, rfl, Nat.le_refl _, by omega, by simp, fun h => absurd h (by simp)⟩, fun i hi => by simp at hi⟩
 ·simp at hcs; subst hcs
  simp only [if_true] at hmm
  subst hmm
  have hm' : m ≤ 9223372036854775807 := by simpa [maxLen] using hm
  rw [hk] at hel
  have hlen : len * bts ≤ 140737488351232 := by
   have := hw ((len + (m - len)) * bts) (by
    subst hx; simp only [DataW.weights, ht, hbt, List.length_map, List.length_range]; exact List.mem_cons_self)
   have : len * bts ≤ (len + (m - len)) * bts := Nat.mul_le_mul_right _ (by omega)
   omega
  have hfit : ∀ i, i < len → Fits e (D i) := fun i hi n hn => hw n (by
   subst hx
   simp only [DataW.weights, ht]
   refine List.mem_cons_of_mem _ (List.mem_append_left _ ?_)
   exact weights_all (List.mem_map.2 ⟨i, by simpa using hi, rfl⟩) hn)
  have hch : ∀ i, i < len → ∃ p : α × List Value, W.cells? base (a.add (i * k)) k = some p.2 ∧ E p.1 p.2 := fun i hi => by
   obtain ⟨cs', h1, h2⟩ := hel i (by omega)
   obtain ⟨y, hy⟩ := hE n cs' _ h2 (World.cells?_some h1).2.1 (hfit i hi)
   exact ⟨(y, cs'), h1, hy⟩
  obtain ⟨f, hf2⟩ := choose_lt hch
  refine ⟨(List.range len).map fun i => (f i).1, fun i => (f i).2, ?_, fun i hi => ?_⟩
  ·rw [List.length_map, List.length_range]
   refine ⟨some a, m, rfl, hl, hm', hlen, fun hp => ?_⟩
   obtain ⟨b, off, spot⟩ := a
   have h0 := (World.cells?_some (hf2 0 hp).1)
   have h00 := h0.2.2 0 hk0
   rw [List.getElem?_eq_getElem (by rw [h0.2.1]; exact hk0)] at h00
   have hspot : spot = none := by simpa [Addr.add] using World.cell?_spot h00
   subst hspot
   refine ⟨b, off, rfl, ?_, fun i hi j u hu => ?_⟩
   ·have hbl : b < W.heap.size := by
     have := World.block_lt_of_cell? W _ h00
     simpa [Addr.add] using this
    exact ⟨hbl, .inl (GhostAll.all _ hbl)⟩
   ·have hi2 := World.cells?_some (hf2 i hi).1
    have hj : j < k := by
     rcases Nat.lt_or_ge j (f i).2.length with h' | h'
     ·rw [← hi2.2.1]; exact h'
     ·have hu' : (f i).2[j]? = some u := hu
      rw [List.getElem?_eq_none h'] at hu'; cases hu'
    have := hi2.2.2 j hj
    rw [add_off, add_off] at this
    rw [this]; exact hu
  ·simp only [List.length_map, List.length_range] at hi
   simp only [List.getElem_map, List.getElem_range]
   exact (hf2 i hi).2
theorem open_refs {fuel : Nat} {v : Value} {x : DataW H × List MemPlace} (hf : DataW.trod enc Tryz.prog W base (fun _ => true) true fuel 23 [v] = some x) (hw : Fits 23 x.1) :
  ∃ l, RefsV (fun b => b < W.heap.size) W v l := by
 haveI : Inhabited Rf := ⟨rf0⟩
 obtain ⟨xs, css, h1, h2⟩ := open_rows Tryz.underlying23 cells_ref (by decide) bytes_ref (by decide) (fun (r : Rf) cs => cs = [.string r.name, .int .i64 r.id] ∧ I64 r.id ∧ r.name.size ≤ 140737488351232) (fun n cs' y hy hl hfit => by
  match cs', hl with
  | [c0, c1], _ =>
   obtain ⟨y0, y1, m, hx, _, h0, h1⟩ := trod_struct2 Tryz.underlying62 hy
   simp only [List.drop_zero, cells_string, cells_int, List.take_succ_cons, List.take_zero, List.drop_succ_cons] at h0 h1
   obtain ⟨s, e0, hy0, _⟩ := DataW.trod_string Tryz.underlying9 h0
   obtain ⟨i, e1, _, w1⟩ := DataW.trod_int Tryz.underlying3 h1
   simp at e0 e1
   subst e0; subst e1; subst hx
   refine ⟨⟨s, i⟩, rfl, wf_i64 w1, ?_⟩
   have := hfit s.data.toList.length (by
    simp only [DataW.weights, Tryz.underlying62, DataW.weightsEach, List.map_cons, List.map_nil, List.mem_append]
    subst hy0; exact .inl (by simp [DataW.weights]))
   simpa using this) hf hw
 have he : ∀ i, i < xs.length → css i = [.string (rf xs i).name, .int .i64 (rf xs i).id] := fun i hi => by rw [rf_lt hi]; exact (h2 i hi).1
 refine ⟨xs, ?_, fun r hr => ?_⟩
 ·obtain ⟨a, cap, hv, g1, g2, g3, g4⟩ := h1
  refine ⟨a, cap, hv, g1, g2, g3, fun hn => ?_⟩
  obtain ⟨b, off, ha, hS, hc⟩ := g4 hn
  exact ⟨b, off, ha, hS, fun i hi j u hu => hc i hi j u (by rw [he i hi]; exact hu)⟩
 ·obtain ⟨i, hi, rfl⟩ := List.getElem_of_mem hr
  exact (h2 i hi).2
theorem open_store {fuel : Nat} {v : Value} {x : DataW H × List MemPlace} (hf : DataW.trod enc Tryz.prog W base (fun _ => true) true fuel 22 [v] = some x) (hw : Fits 22 x.1) :
  ∃ l, StoreV (fun b => b < W.heap.size) W v l := by
 haveI : Inhabited Obj := ⟨obj0⟩
 obtain ⟨xs, css, h1, h2⟩ := open_rows Tryz.underlying22 cells_object (by decide) bytes_object (by decide) (fun (o : Obj) cs => ∃ lv, cs = objCells o lv ∧ ObjIs (fun b => b < W.heap.size) W o lv) (fun n cs' y hy hl hfit => by
  match cs', hl with
  | [c0, c1, c2, c3], _ =>
   obtain ⟨y0, y1, y2, y3, m, hx, _, h0, h1, h2, h3⟩ := Joins.trod_struct4 Tryz.underlying46 hy
   simp only [List.drop_zero, cells_string, cells_int, cells_ints, List.take_succ_cons, List.take_zero, List.drop_succ_cons] at h0 h1 h2 h3
   subst hx
   obtain ⟨o, rfl, rfl, rfl, ho⟩ := open_cells h0 h1 h2 h3 hfit
   exact ⟨o, c2, rfl, ho⟩) hf hw
 obtain ⟨lvs, hlv⟩ := choose_lt (p := fun i lv => css i = objCells (obj xs i) lv ∧ ObjIs (fun b => b < W.heap.size) W (obj xs i) lv) (n := xs.length) (fun i hi => by
  obtain ⟨lv, e, ho⟩ := h2 i hi
  rw [obj_lt hi]; exact ⟨lv, e, ho⟩)
 refine ⟨xs, lvs, ?_, fun i hi => (hlv i hi).2⟩
 obtain ⟨a, cap, hv, g1, g2, g3, g4⟩ := h1
 refine ⟨a, cap, hv, g1, g2, g3, fun hn => ?_⟩
 obtain ⟨b, off, ha, hS, hc⟩ := g4 hn
 exact ⟨b, off, ha, hS, fun i hi j u hu => hc i hi j u (by rw [(hlv i hi).1]; exact hu)⟩
end
end Go.Proofs.YtjdgpgfiomnjkaaGreatDoor
namespace Go.Proofs.YtjdgpgfiomnjkaaGreatDoor
open Go.ChangeShapes Go.WideShapes Go.ChangeAt Go.RowKit Go.Deep
set_option linter.unusedVariables false
set_option linter.unusedSimpArgs false
set_option linter.unusedSectionVars false
variable [Ghost]
theorem cells_bool : Tryz.prog.cellsOf 4 = 1 := by kernel_rfl
theorem cells_refs : Tryz.prog.cellsOf 23 = 1 := by kernel_rfl
theorem cells_objects : Tryz.prog.cellsOf 22 = 1 := by kernel_rfl
theorem cells_updates : Tryz.prog.cellsOf 24 = 1 := by kernel_rfl
theorem cells_update : Tryz.prog.cellsOf 107 = 3 := by kernel_rfl
theorem bytes_update : Tryz.prog.bytesOf 107 = 32 := by kernel_rfl
theorem cells_push : Tryz.prog.cellsOf 26 = 3 := by kernel_rfl
theorem cells_replica : Tryz.prog.cellsOf 28 = 7 := by kernel_rfl
section
variable {H : Type} {enc : TypeId × Value → H} {W : World} [GhostAll W] {base : Nat}
theorem trod_struct5 {P : Program} {spare : Nat → Bool} {held : Bool} {t : TypeId} {f0 f1 f2 f3 f4 : Field} {fuel : Nat} {cs : List Value} {x : DataW H × List MemPlace} (ht : P.underlying t = some (.struct #[f0, f1, f2, f3, f4])) (h : DataW.trod enc P W base spare held fuel t cs = some x) :
  ∃ y0 y1 y2 y3 y4 n, x = (.agg [y0.1, y1.1, y2.1, y3.1, y4.1], y0.2 ++ (y1.2 ++ (y2.2 ++ (y3.2 ++ y4.2)))) ∧ cs.length = P.cellsOf t ∧ DataW.trod enc P W base spare held n f0.type ((cs.drop f0.offset).take (P.cellsOf f0.type)) = some y0 ∧
   DataW.trod enc P W base spare held n f1.type ((cs.drop f1.offset).take (P.cellsOf f1.type)) = some y1 ∧ DataW.trod enc P W base spare held n f2.type ((cs.drop f2.offset).take (P.cellsOf f2.type)) = some y2 ∧
   DataW.trod enc P W base spare held n f3.type ((cs.drop f3.offset).take (P.cellsOf f3.type)) = some y3 ∧ DataW.trod enc P W base spare held n f4.type ((cs.drop f4.offset).take (P.cellsOf f4.type)) = some y4 := by
 obtain ⟨xs, n, _, rfl, hl, hlen, hf⟩ := DataW.trod_struct ht h
 match xs, hlen with
 | [y0, y1, y2, y3, y4], _ => exact ⟨y0, y1, y2, y3, y4, n, by simp, hl, by simpa using hf 0 f0 rfl, by simpa using hf 1 f1 rfl, by simpa using hf 2 f2 rfl, by simpa using hf 3 f3 rfl, by simpa using hf 4 f4 rfl⟩
theorem open_updates {fuel : Nat} {v : Value} {x : DataW H × List MemPlace} (hf : DataW.trod enc Tryz.prog W base (fun _ => true) true fuel 24 [v] = some x) (hw : Fits 24 x.1) :
  ∃ l, MvsV (fun b => b < W.heap.size) W v l := by
 haveI : Inhabited Mv := ⟨mv0⟩
 obtain ⟨xs, css, h1, h2⟩ := open_rows Tryz.underlying24 cells_update (by decide) bytes_update (by decide) (fun (r : Mv) cs => cs = mvCells r ∧ I64 r.old ∧ I64 r.new ∧ r.name.size ≤ 140737488351232) (fun n cs' y hy hl hfit => by
  match cs', hl with
  | [c0, c1, c2], _ =>
   obtain ⟨y0, y1, y2, m, hx, _, h0, h1, h2⟩ := trod_struct3 Tryz.underlying107 hy
   simp only [List.drop_zero, cells_string, cells_int, List.take_succ_cons, List.take_zero, List.drop_succ_cons] at h0 h1 h2
   obtain ⟨s, e0, hy0, _⟩ := DataW.trod_string Tryz.underlying9 h0
   obtain ⟨i, e1, _, w1⟩ := DataW.trod_int Tryz.underlying3 h1
   obtain ⟨j, e2, _, w2⟩ := DataW.trod_int Tryz.underlying3 h2
   simp at e0 e1 e2
   subst e0; subst e1; subst e2; subst hx
   refine ⟨⟨s, i, j⟩, rfl, wf_i64 w1, wf_i64 w2, ?_⟩
   have := hfit s.data.toList.length (by
    simp only [DataW.weights, Tryz.underlying107, DataW.weightsEach, List.map_cons, List.map_nil, List.mem_append]
    subst hy0; exact .inl (by simp [DataW.weights]))
   simpa using this) hf hw
 have he : ∀ i, i < xs.length → css i = mvCells (mv xs i) := fun i hi => by rw [mv_lt hi]; exact (h2 i hi).1
 refine ⟨xs, ?_, fun r hr => ?_⟩
 ·obtain ⟨a, cap, hv, g1, g2, g3, g4⟩ := h1
  refine ⟨a, cap, hv, g1, g2, g3, fun hn => ?_⟩
  obtain ⟨b, off, ha, hS, hc⟩ := g4 hn
  exact ⟨b, off, ha, hS, fun i hi j u hu => hc i hi j u (by rw [he i hi]; exact hu)⟩
 ·obtain ⟨i, hi, rfl⟩ := List.getElem_of_mem hr
  exact (h2 i hi).2
theorem open_pushCells {fuel : Nat} {c0 c1 c2 : Value} {x : DataW H × List MemPlace} (hf : DataW.trod enc Tryz.prog W base (fun _ => true) true fuel 26 [c0, c1, c2] = some x) (hw : Fits 26 x.1) :
  ∃ p : Psh, c2 = .bool p.force ∧ StoreV (fun b => b < W.heap.size) W c0 p.objects ∧ MvsV (fun b => b < W.heap.size) W c1 p.updates := by
 obtain ⟨y0, y1, y2, m, hx, _, h0, h1, h2⟩ := trod_struct3 Tryz.underlying26 hf
 simp only [List.drop_zero, cells_objects, cells_updates, cells_bool, List.take_succ_cons, List.take_zero, List.drop_succ_cons] at h0 h1 h2
 subst hx
 obtain ⟨l, hl⟩ := open_store h0 (fun n hn => hw n (by
  simp only [DataW.weights, Tryz.underlying26, DataW.weightsEach, List.map_cons, List.map_nil, List.mem_append]; exact .inl hn))
 obtain ⟨us, hus⟩ := open_updates h1 (fun n hn => hw n (by
  simp only [DataW.weights, Tryz.underlying26, DataW.weightsEach, List.map_cons, List.map_nil, List.mem_append]; exact .inr (.inl hn)))
 obtain ⟨b, e2, _⟩ := DataW.trod_bool Tryz.underlying4 h2
 simp at e2
 subst e2
 exact ⟨⟨l, us, b⟩, rfl, hl, hus⟩
set_option maxRecDepth 100000 in
theorem open_push {r : Reach} {b0 : Nat} {v : Value} {d : DataW H} {p : List MemPlace} (hv : Value.okWide Tryz.prog W r b0 26 v)
  (h : DataW.Trod enc Tryz.prog W base (fun _ => true) true 26 v d p) (hw : Fits 26 d) :
  ∃ (q : Psh) (ov uv : Value), v = pshV q ov uv ∧ StoreV (fun b => b < W.heap.size) W ov q.objects ∧ MvsV (fun b => b < W.heap.size) W uv q.updates := by
 obtain ⟨cs, rfl, hsz⟩ := okWide_struct Tryz.underlying26 hv
 obtain ⟨c0, c1, c2, rfl⟩ := Joins.array3 (hsz.trans cells_push)
 obtain ⟨fuel, hf⟩ := h
 obtain ⟨q, rfl, h0, h1⟩ := open_pushCells (x := (d, p)) (by simpa [Value.cells] using hf) hw
 exact ⟨q, c0, c1, rfl, h0, h1⟩
theorem array7 {α : Type} {cs : Array α} (h : cs.size = 7) : ∃ c0 c1 c2 c3 c4 c5 c6, cs = #[c0, c1, c2, c3, c4, c5, c6] := by
 obtain ⟨l⟩ := cs
 match l, h with
 | [c0, c1, c2, c3, c4, c5, c6], _ => exact ⟨c0, c1, c2, c3, c4, c5, c6, rfl⟩
theorem open_repCells {fuel : Nat} {c0 c1 c2 c3 c4 c5 c6 : Value} {x : DataW H × List MemPlace} (hf : DataW.trod enc Tryz.prog W base (fun _ => true) true fuel 28 [c0, c1, c2, c3, c4, c5, c6] = some x) (hw : Fits 28 x.1) :
  ∃ q : Rep, c2 = .int .i64 q.gen ∧ c3 = .int .i64 q.phase ∧ c6 = .bool q.pend.force ∧ RepIs (fun b => b < W.heap.size) W q c0 c1 c4 c5 := by
 obtain ⟨y0, y1, y2, y3, y4, m, hx, _, h0, h1, h2, h3, h4⟩ := trod_struct5 Tryz.underlying28 hf
 simp only [List.drop_zero, cells_objects, cells_refs, cells_int, cells_push, List.take_succ_cons, List.take_zero, List.drop_succ_cons] at h0 h1 h2 h3 h4
 subst hx
 obtain ⟨l, hl⟩ := open_store h0 (fun n hn => hw n (by
  simp only [DataW.weights, Tryz.underlying28, DataW.weightsEach, List.map_cons, List.map_nil, List.mem_append]; exact .inl hn))
 obtain ⟨rs, hrs⟩ := open_refs h1 (fun n hn => hw n (by
  simp only [DataW.weights, Tryz.underlying28, DataW.weightsEach, List.map_cons, List.map_nil, List.mem_append]; exact .inr (.inl hn)))
 obtain ⟨g, e2, _, w2⟩ := DataW.trod_int Tryz.underlying3 h2
 obtain ⟨f, e3, _, w3⟩ := DataW.trod_int Tryz.underlying3 h3
 simp at e2 e3
 subst e2; subst e3
 obtain ⟨q, rfl, hq0, hq1⟩ := open_pushCells h4 (fun n hn => hw n (by
  simp only [DataW.weights, Tryz.underlying28, DataW.weightsEach, List.map_cons, List.map_nil, List.mem_append]; exact .inr (.inr (.inr (.inr (.inl hn))))))
 exact ⟨⟨l, rs, g, f, q⟩, rfl, rfl, rfl, ⟨hl, hrs, hq0, hq1, wf_i64 w2, wf_i64 w3⟩⟩
set_option maxRecDepth 100000 in
theorem open_replica {r : Reach} {b0 : Nat} {v : Value} {d : DataW H} {p : List MemPlace} (hv : Value.okWide Tryz.prog W r b0 28 v)
  (h : DataW.Trod enc Tryz.prog W base (fun _ => true) true 28 v d p) (hw : Fits 28 d) :
  ∃ (q : Rep) (sv rv ov uv : Value), v = repV q sv rv ov uv ∧ RepIs (fun b => b < W.heap.size) W q sv rv ov uv := by
 obtain ⟨cs, rfl, hsz⟩ := okWide_struct Tryz.underlying28 hv
 obtain ⟨c0, c1, c2, c3, c4, c5, c6, rfl⟩ := array7 (hsz.trans cells_replica)
 obtain ⟨fuel, hf⟩ := h
 obtain ⟨q, rfl, rfl, rfl, h0⟩ := open_repCells (x := (d, p)) (by simpa [Value.cells] using hf) hw
 exact ⟨q, c0, c1, c4, c5, rfl, h0⟩
end
end Go.Proofs.YtjdgpgfiomnjkaaGreatDoor
namespace Go.Proofs.YtjdgpgfiomnjkaaGreatDoor
open Go.RowKit
set_option linter.unusedSectionVars false
variable [Ghost]
theorem pf_lifts : Tryz.prog.liftsFinal = false := by kernel_rfl
theorem pf_keys : Tryz.prog.plainKeys = true := by kernel_rfl
theorem pf_heard : Tryz.prog.stopsHeard = true := by kernel_rfl
theorem pf_enter : Tryz.prog.mayEnter = true := by kernel_rfl
theorem pf_out : laidOutB Tryz.prog = true := by kernel_rfl
theorem pf_maps : mapsRowed Tryz.prog = true := by kernel_rfl
theorem pf_make : Tryz.prog.make = some .cut := by kernel_rfl
theorem pf_looks : Tryz.prog.looks [] = true := by kernel_rfl
end Go.Proofs.YtjdgpgfiomnjkaaGreatDoor
namespace Go.Proofs.YtjdgpgfiomnjkaaGreatDoor
open Go.RowKit
set_option linter.unusedVariables false
set_option linter.unusedSectionVars false
variable [Ghost]
theorem tab_of_laid {w : World} {l : List (String × DataW Unit)} (h : laidMetH Tryz.prog l w) (h1 : (l.all fun x => x.2.handleName?.isNone) = true) (h2 : (l.filter fun x => x.1 == "internal/strconv.uint64pow10") = [("internal/strconv.uint64pow10", Lib.tabData .u64 Lib.pow10Tab)]) : Tab w := by
 rw [MakeChecks.laidMetH_plain _ _ _ h1] at h
 have h4 := h.filter (fun x => x.1 == "internal/strconv.uint64pow10")
 rw [h2] at h4
 exact Lib.tabIs_of_head (g := 1) (by kernel_rfl) (by kernel_rfl) Tryz.underlying284 Tryz.underlying231 (by kernel_rfl) (by kernel_rfl) h4
end Go.Proofs.YtjdgpgfiomnjkaaGreatDoor
