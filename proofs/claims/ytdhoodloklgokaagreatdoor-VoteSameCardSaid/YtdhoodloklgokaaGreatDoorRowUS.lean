
/- RowUS: updates in a row of the call's own, sorted by slices.SortFunc. -/
import Derived.Test.YtdhoodloklgokaaGreatDoorRowU
import Derived.Shelf.SlSortCmp.WholeK
namespace Go.Proofs.YtdhoodloklgokaaGreatDoor
open Go.RowKit
set_option linter.unusedVariables false
set_option linter.unusedSimpArgs false

instance instInhabitedMv : Inhabited Mv := ⟨mv0⟩
theorem mv_arr {l : List Mv} {i : Nat} (h : i < l.length) : l.toArray[i]! = mv l i := by
  rw [getElem!_pos _ i (by simpa using h), mv_lt h]; simp
theorem own_holds {B g cap : Nat} {w : World} {l : List Mv} (h : OwnU B w (.slice (some ⟨g, 0, none⟩) l.length cap) l) : Go.Sort.HoldsK mvCells 3 w g 0 l.toArray := by
  intro j hj
  have hj' : j < l.length * 3 := by simpa using hj
  have hc := h.1.cellAt j (by simpa using hj')
  have hf := h.1.frozenAt (g := g) j
  refine ⟨?_, by simpa using hf⟩
  have e := flat_get (cs := fun i => mvCells (mv l i)) (sz := 3) (n := l.length) (fun _ _ => rfl) (j / 3) (by omega) (j % 3) ((mvCells (mv l (j / 3)))[j % 3]'(by show j % 3 < 3; omega)) (List.getElem?_eq_getElem _)
  rw [show j / 3 * 3 + j % 3 = j by omega] at e
  rw [Nat.zero_add, hc, e, Go.Sort.get_flatK _ _ _ _ (by simpa using hj'), mv_arr (by omega)]
  rw [getElem!_pos (mvCells (mv l (j / 3))) (j % 3) (by show j % 3 < 3; omega)]
  rfl
theorem sort_upd (w : World) (g m : Nat) (d : Array Mv) (os : Array Go.Obj) : Upd (fun b => b = g) w (Go.Proofs.sortWorldK mvCells 3 w g 0 m d os) := by
  refine ⟨rfl, rfl, rfl, by simp [Go.Proofs.sortWorldK, Go.Sort.putRowK, Go.Sort.ahead], fun b hb hn => ?_⟩
  show ((Go.Sort.putRowK mvCells 3 (Go.Sort.ahead w m) g 0 d).heap ++ os)[b]? = _
  rw [Array.getElem?_append_left (by simpa [Go.Sort.putRowK] using hb)]
  show (w.heap.modify g _)[b]? = _
  rw [Array.getElem?_modify, if_neg (fun e => hn e.symm)]
theorem own_sorted {B g cap m : Nat} {w : World} {l : List Mv} {d : Array Mv} {os : Array Go.Obj} (h : OwnU B w (.slice (some ⟨g, 0, none⟩) l.length cap) l) (hl : l.length * 32 ≤ 140737488351232) (hd : d.size = l.length) (hok : ∀ u ∈ d.toList, MvOk u) :
    MvsV (fun b => B ≤ b) (Go.Proofs.sortWorldK mvCells 3 w g 0 m d os) (.slice (some ⟨g, 0, none⟩) l.length cap) d.toList := by
  have hb := h.block (g := g) rfl
  have hH := Go.Proofs.holdsK_sortWorldK_c mvCells 3 w g 0 l.toArray d m os (own_holds h) hb.2 (by simpa using hd)
  have hlen : d.toList.length = l.length := by simpa using hd
  obtain ⟨⟨a, c, e, g1, g2, g3, _⟩, _⟩ := h.mvs hl
  cases e
  refine ⟨⟨_, _, by rw [hlen], by rw [hlen]; exact g1, g2, by rw [hlen]; exact g3, fun hn => ⟨g, 0, rfl, hb.1, fun i hi j u hu => ?_⟩⟩, hok⟩
  have hj : j < 3 := by
    rcases Nat.lt_or_ge j 3 with h | h
    · exact h
    · rw [List.getElem?_eq_none (by exact h)] at hu; cases hu
  rw [(hH.cell (i := i) (c := j) (by omega) hj).1]
  have e : d[i]! = mv d.toList i := by rw [getElem!_pos d i (by omega), mv_lt hi]; simp
  rw [e, getElem!_pos _ j (by exact hj)]
  rw [List.getElem?_eq_getElem (by exact hj)] at hu
  exact hu
/-- what the sort gives, as lists -/
theorem sort_lists {l : List Mv} {d : Array Mv} (hp : Go.Sort.PermIn 0 l.toArray.size l.toArray d) (hs : Go.Sort.SortedIn (Go.Proofs.ltOf fun a b : Mv => cmpS a.name b.name) 0 l.toArray.size d) :
    d.size = l.length ∧ d.toList.Perm l ∧ d.toList.Pairwise fun a b => strLt b.name a.name = false := by
  have h1 : d.size = l.length := by simpa using hp.1
  refine ⟨h1, ?_, ?_⟩
  · have h2 := hp.2.2
    have e1 : d.extract 0 l.toArray.size = d := by rw [show l.toArray.size = d.size by simpa using h1.symm]; simp
    rw [e1] at h2
    simpa using h2
  · rw [List.pairwise_iff_getElem]
    intro i j hi hj hij
    have := hs i j (Nat.zero_le _) hij (by simpa [h1] using hj)
    rw [getElem!_pos d j (by simpa using hj), getElem!_pos d i (by simpa using hi)] at this
    unfold Go.Proofs.ltOf at this
    cases e : strLt d.toList[j].name d.toList[i].name
    · rfl
    · have h3 := (cmpS_lt _ _).2 e
      simp only [Array.getElem_toList] at h3
      rw [decide_eq_true h3] at this; cases this
theorem swoN : Go.Sort.SWO (Go.Proofs.ltOf fun a b : Mv => cmpS a.name b.name) := by
  have e : ∀ x y : Mv, Go.Proofs.ltOf (fun a b : Mv => cmpS a.name b.name) x y = strLt x.name y.name := fun x y => by
    unfold Go.Proofs.ltOf
    cases h : strLt x.name y.name
    · exact decide_eq_false fun h2 => by rw [(cmpS_lt _ _).1 h2] at h; cases h
    · exact decide_eq_true ((cmpS_lt _ _).2 h)
  refine ⟨fun x => ?_, fun x y z h1 h2 => ?_, fun x y z h1 h2 => ?_⟩
  · rw [e]; exact strLt_irrefl _
  · rw [e] at *; exact less_trans _ _ _ h1 h2
  · rw [e] at *; exact strLt_ntrans h1 h2
end Go.Proofs.YtdhoodloklgokaaGreatDoor
