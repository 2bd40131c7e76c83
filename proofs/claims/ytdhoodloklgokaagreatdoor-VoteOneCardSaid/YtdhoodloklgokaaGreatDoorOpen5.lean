
/- The rows' frame: a list of texts as an argument. -/
import Derived.Test.YtdhoodloklgokaaGreatDoorOpen
import Derived.Test.YtdhoodloklgokaaGreatDoorVoteA
namespace Go.Proofs.YtdhoodloklgokaaGreatDoor
open Go.ChangeShapes Go.WideShapes Go.ChangeAt Go.RowKit Go.Deep
set_option linter.unusedVariables false
set_option linter.unusedSimpArgs false

theorem bytes_string : Tryz.prog.bytesOf 9 = 16 := by kernel_rfl

section
variable {H : Type} {enc : TypeId × Value → H} {W : World} {base : Nat}

theorem open_stringsV {fuel : Nat} {v : Value} {x : DataW H × List MemPlace} (hf : DataW.trod enc Tryz.prog W base (fun _ => true) true fuel 64 [v] = some x) (hw : Fits 64 x.1) :
    ∃ l, StrsV (fun b => b < W.heap.size) W v l := by
  haveI : Inhabited ByteArray := ⟨ByteArray.empty⟩
  obtain ⟨xs, css, h1, h2⟩ := open_rows Tryz.underlying64 cells_string (by decide) bytes_string (by decide) (fun (r : ByteArray) cs => cs = [.string r] ∧ r.size ≤ 140737488351232) (fun n cs' y hy hl hfit => by
    match cs', hl with
    | [c0], _ =>
      obtain ⟨s, e0, hy0, _⟩ := DataW.trod_string Tryz.underlying9 hy
      simp at e0
      subst e0
      refine ⟨s, rfl, ?_⟩
      have := hfit s.data.toList.length (by subst hy0; simp [DataW.weights, Tryz.underlying9])
      simpa using this) hf hw
  have he : ∀ i, i < xs.length → css i = [.string (sa xs i)] := fun i hi => by rw [sa_lt hi]; exact (h2 i hi).1
  refine ⟨xs, ?_, fun r hr => ?_⟩
  · obtain ⟨a, cap, hv, g1, g2, g3, g4⟩ := h1
    refine ⟨a, cap, hv, g1, g2, g3, fun hn => ?_⟩
    obtain ⟨b, off, ha, hS, hc⟩ := g4 hn
    exact ⟨b, off, ha, hS, fun i hi j u hu => hc i hi j u (by rw [he i hi]; exact hu)⟩
  · obtain ⟨i, hi, rfl⟩ := List.getElem_of_mem hr
    exact (h2 i hi).2
end
end Go.Proofs.YtdhoodloklgokaaGreatDoor
