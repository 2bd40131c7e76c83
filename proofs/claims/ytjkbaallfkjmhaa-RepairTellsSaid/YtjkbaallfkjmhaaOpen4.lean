
/- The rows' frame: a cluster as an argument. -/
import Derived.Test.YtjkbaallfkjmhaaOpen3
import Derived.Test.YtjkbaallfkjmhaaCluB
namespace Go.Proofs.Ytjkbaallfkjmhaa
open Go.ChangeShapes Go.WideShapes Go.ChangeAt Go.RowKit Go.Deep
set_option linter.unusedVariables false
set_option linter.unusedSimpArgs false

theorem bytes_replica : Try.prog.bytesOf 28 = 120 := by kernel_rfl
theorem cells_replicas : Try.prog.cellsOf 29 = 1 := by kernel_rfl
theorem cells_cluster : Try.prog.cellsOf 31 = 1 := by kernel_rfl

section
variable {H : Type} {enc : TypeId × Value → H} {W : World} {base : Nat}

theorem open_reps {fuel : Nat} {v : Value} {x : DataW H × List MemPlace} (hf : DataW.trod enc Try.prog W base (fun _ => true) true fuel 29 [v] = some x) (hw : Fits 29 x.1) :
    ∃ l, RepsV (fun b => b < W.heap.size) W v l := by
  haveI : Inhabited Rep := ⟨rep0⟩
  obtain ⟨xs, css, h1, h2⟩ := open_rows Try.underlying29 cells_replica (by decide) bytes_replica (by decide) (fun (r : Rep) cs => ∃ y : RV, cs = repC r y ∧ RepAt (fun b => b < W.heap.size) W r y) (fun n cs' y hy hl hfit => by
    match cs', hl with
    | [c0, c1, c2, c3, c4, c5, c6], _ =>
      obtain ⟨q, rfl, rfl, rfl, h0⟩ := open_repCells hy hfit
      exact ⟨q, ⟨c0, c1, c4, c5⟩, rfl, h0⟩) hf hw
  haveI : Inhabited RV := ⟨⟨.nilFunc, .nilFunc, .nilFunc, .nilFunc⟩⟩
  obtain ⟨lvs, hlv⟩ := choose_lt (p := fun i y => css i = repC (rep xs i) y ∧ RepAt (fun b => b < W.heap.size) W (rep xs i) y) (n := xs.length) (fun i hi => by
    obtain ⟨y, e, ho⟩ := h2 i hi
    rw [rep_lt hi]; exact ⟨y, e, ho⟩)
  refine ⟨xs, lvs, ?_, fun i hi => (hlv i hi).2⟩
  obtain ⟨a, cap, hv, g1, g2, g3, g4⟩ := h1
  refine ⟨a, cap, hv, g1, g2, g3, fun hn => ?_⟩
  obtain ⟨b, off, ha, hS, hc⟩ := g4 hn
  exact ⟨b, off, ha, hS, fun i hi j u hu => hc i hi j u (by rw [(hlv i hi).1]; exact hu)⟩

set_option maxRecDepth 100000 in
theorem open_cluster {r : Reach} {b0 : Nat} {v : Value} {d : DataW H} {p : List MemPlace} (hv : Value.okWide Try.prog W r b0 31 v)
    (h : DataW.Trod enc Try.prog W base (fun _ => true) true 31 v d p) (hw : Fits 31 d) :
    ∃ (l : List Rep) (cv : Value), v = .agg #[cv] ∧ RepsV (fun b => b < W.heap.size) W cv l := by
  obtain ⟨cs, rfl, hsz⟩ := okWide_struct Try.underlying31 hv
  obtain ⟨c0, rfl⟩ : ∃ c0, cs = #[c0] := by
    obtain ⟨l⟩ := cs
    match l, hsz.trans cells_cluster with
    | [c0], _ => exact ⟨c0, rfl⟩
  obtain ⟨fuel, hf⟩ := h
  obtain ⟨xs, n, _, e, hl, hlen, hfx⟩ := DataW.trod_struct Try.underlying31 (x := (d, p)) (by simpa [Value.cells] using hf)
  match xs, hlen with
  | [y0], _ =>
    have h0 : DataW.trod enc Try.prog W base (fun _ => true) true n 29 [c0] = some y0 := by simpa [cells_replicas] using hfx 0 _ rfl
    cases e
    obtain ⟨l, hl⟩ := open_reps h0 (fun n hn => hw n (by
      simp only [DataW.weights, Try.underlying31, DataW.weightsEach, List.map_cons, List.map_nil, List.mem_append]; exact .inl hn))
    exact ⟨l, c0, rfl, hl⟩
end

end Go.Proofs.Ytjkbaallfkjmhaa
