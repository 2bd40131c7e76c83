
/- Walks: the law RefsOnce. -/
import Derived.Test.YtkaoldnhooojiaaGreatDoorOnceP
import Derived.Test.YtkaoldnhooojiaaGreatDoorRefsA
import Derived.Test.YtkaoldnhooojiaaGreatDoorBase
namespace Go.Proofs.YtkaoldnhooojiaaGreatDoor
open Go.RowKit
set_option linter.unusedVariables false
set_option linter.unusedSimpArgs false

theorem RefsV.take {S : Nat → Prop} {w : World} {a : Option Addr} {n cap : Nat} {l : List Rf} (h : RefsV S w (.slice a n cap) l) {i : Nat} (hi : i ≤ l.length) : RefsV S w (.slice a i cap) (l.take i) := by
  obtain ⟨⟨a', cap', hv, h1, h2, h3, h4⟩, h5⟩ := h
  cases hv
  have hl : (l.take i).length = i := by simp; omega
  refine ⟨⟨a, cap, by rw [hl], by omega, h2, by omega, fun hp => ?_⟩, fun r hr => h5 r (List.mem_of_mem_take hr)⟩
  rw [hl] at hp
  obtain ⟨b, off, ha, hS, hc⟩ := h4 (by omega)
  refine ⟨b, off, ha, hS, fun j hj m u hu => hc j (by omega) m u ?_⟩
  have e : rf (l.take i) j = rf l j := by unfold rf at_; simp only [List.getD_eq_getElem?_getD, List.getElem?_take, show j < i by omega, if_true]
  have hu' : [Value.string (rf (l.take i) j).name, .int .i64 (rf (l.take i) j).id][m]? = some u := hu
  rw [e] at hu'; exact hu'

theorem RefsV.drop {S : Nat → Prop} {w : World} {b off n cap : Nat} {l : List Rf} (h : RefsV S w (.slice (some ⟨b, off, none⟩) n cap) l) {i : Nat} (hi : i ≤ l.length) : RefsV S w (.slice (some ⟨b, off + i * 2, none⟩) (n - i) (cap - i)) (l.drop i) := by
  obtain ⟨⟨a', cap', hv, h1, h2, h3, h4⟩, h5⟩ := h
  cases hv
  have hl : (l.drop i).length = l.length - i := by simp
  refine ⟨⟨_, cap - i, by rw [hl], by omega, by omega, by omega, fun hp => ?_⟩, fun r hr => h5 r (List.mem_of_mem_drop hr)⟩
  rw [hl] at hp
  obtain ⟨b', off', ha, hS, hc⟩ := h4 (by omega)
  cases ha
  refine ⟨b, off + i * 2, rfl, hS, fun j hj m u hu => ?_⟩
  have e : rf (l.drop i) j = rf l (i + j) := by unfold rf at_; simp only [List.getD_eq_getElem?_getD, List.getElem?_drop]
  have hu' : [Value.string (rf (l.drop i) j).name, .int .i64 (rf (l.drop i) j).id][m]? = some u := hu
  rw [e] at hu'
  have := hc (i + j) (by omega) m u hu'
  rw [show off + i * 2 + j * 2 + m = off + (i + j) * 2 + m by omega]; exact this

def refCells (l : List Rf) : List Value := l.flatMap fun r => [.string r.name, .int .i64 r.id]
theorem refCells_append (l k : List Rf) : refCells (l ++ k) = refCells l ++ refCells k := by simp [refCells]
theorem refCells_length (l : List Rf) : (refCells l).length = l.length * 2 := by
  induction l with
  | nil => rfl
  | cons a l ih => simp [refCells] at ih ⊢; omega
theorem refCells_get (l : List Rf) : ∀ i, i < l.length → ∀ j u, [Value.string (rf l i).name, .int .i64 (rf l i).id][j]? = some u → (refCells l)[i * 2 + j]? = some u := by
  induction l with
  | nil => intro i hi; simp at hi
  | cons a l ih =>
    intro i hi j u hu
    cases i with
    | zero =>
      have hj : j < 2 := by
        rcases Nat.lt_or_ge j 2 with h | h
        · exact h
        · rw [List.getElem?_eq_none (by simpa using h)] at hu; cases hu
      have : refCells (a :: l) = [.string a.name, .int .i64 a.id] ++ refCells l := rfl
      rw [this, Nat.zero_mul, Nat.zero_add, List.getElem?_append_left (by simpa using hj)]; exact hu
    | succ i =>
      have : refCells (a :: l) = [.string a.name, .int .i64 a.id] ++ refCells l := rfl
      rw [this, List.getElem?_append_right (by simp; omega)]
      have h2 := ih i (by simpa using hi) j u hu
      rw [show (i + 1) * 2 + j - [Value.string a.name, .int .i64 a.id].length = i * 2 + j by simp; omega]; exact h2

theorem Tryz.infoRef : (Tryz.prog.info? 40).map (fun i => (i.zero, i.size, i.bytes)) = some (some (.agg #[.string ⟨#[]⟩, .int .i64 0]), 2, 24) := by kernel_rfl

/-- append of a []Ref to one of the call's own -/
theorem append_refs {x : World} {B m : Nat} {xs ys : List Rf} {g c : Nat} {lv : Value} {S : Nat → Prop} (ty : TypeId) (N : Nat) (hN : N = m + ys.length) (hown : x.ownsRow B 40 2 (.slice (some ⟨g, 0, none⟩) m c) m (refCells xs))
    (hy : RefsV S x lv ys) (hm : N ≤ 1000) (hB : B ≤ x.heap.size) :
    ∃ g' c' x', (Builtin.append_ #[22, 22] ty #[.slice (some ⟨g, 0, none⟩) m c, lv]).run Tryz.prog x = .ok (.slice (some ⟨g', 0, none⟩) N c') x' ∧
      x'.ownsRow B 40 2 (.slice (some ⟨g', 0, none⟩) N c') N (refCells (xs ++ ys)) ∧ x.grownBy x' (some g) := by
  subst hN
  obtain ⟨i0, hi, hz0, hz1, hz2⟩ := info_parts Tryz.infoRef
  obtain ⟨⟨a, cap, hv, h1, h2, h3, h4⟩, h5⟩ := hy
  subst hv
  by_cases h0 : ys.length = 0
  · have hnil : ys = [] := List.length_eq_zero_iff.1 h0
    subst hnil
    refine ⟨g, c, x, ?_, by simpa using hown, ⟨rfl, rfl, rfl, Nat.le_refl _, fun _ _ _ => rfl⟩⟩
    have hle : m ≤ c := by
      rcases hown.2 with ⟨e, _⟩ | ⟨g2, cap2, cur, e, _, _, hh, _⟩
      · cases e
      · simp at e; omega
    exact run_append_nothing x 22 22 ty 40 i0 Tryz.underlying22 hi (some ⟨g, 0, none⟩) m c hle _
      ⟨.inl ⟨_, Tryz.underlying22⟩, fun w' => by simp [Builtin.lenOf], by cases a <;> simp [Builtin.firstCells] <;> rfl, by cases a <;> simp [Builtin.firstCells] <;> rfl, by simp, by simp⟩
  · obtain ⟨b, off, rfl, _, hc⟩ := h4 (by omega)
    obtain ⟨g', c', x', hr, ho, hg, _, _⟩ := run_append_lies (P := Tryz.prog) x 22 ty B 40 i0 _ 2 24 Tryz.underlying22 hi hz0 hz1 hz2 rfl (by omega) _ m _ hown ⟨b, off, none⟩ ys.length cap (refCells ys) (by rw [refCells_length])
      (fun j u hu => by
        have hj : j < ys.length * 2 := by
          rcases Nat.lt_or_ge j (ys.length * 2) with h | h
          · exact h
          · rw [List.getElem?_eq_none (by rw [refCells_length]; exact h)] at hu; cases hu
        have hi' : j / 2 < ys.length := by omega
        have key : [Value.string (rf ys (j / 2)).name, .int .i64 (rf ys (j / 2)).id][j % 2]? = some u := by
          have h01 : j % 2 = 0 ∨ j % 2 = 1 := by omega
          have e := refCells_get ys (j / 2) hi' (j % 2)
          rw [show j / 2 * 2 + j % 2 = j by omega, hu] at e
          rcases h01 with h | h
          · rw [h] at e ⊢; exact (e _ rfl).symm ▸ rfl
          · rw [h] at e ⊢; exact (e _ rfl).symm ▸ rfl
        have := hc (j / 2) hi' (j % 2) u key
        rw [show (⟨b, off, none⟩ : Addr).add j = ⟨b, off + j, none⟩ by unfold Addr.add; split <;> simp_all]
        rw [show off + j = off + j / 2 * 2 + j % 2 by omega]; exact this)
      (by
        intro u hu
        simp only [refCells, List.mem_flatMap, List.mem_cons, List.not_mem_nil, or_false] at hu
        obtain ⟨r, _, rfl | rfl⟩ := hu <;> rfl) (by omega) (by unfold maxLen; omega) (by omega) hB x.heap.size rfl
    exact ⟨g', c', x', hr, by rw [refCells_append]; exact ho, hg⟩

theorem own_empty2 (x : World) (t : TypeId) (B : Nat) (hB : B ≤ x.heap.size) : (x.alloc (.cells #[] t)).ownsRow B t 2 (.slice (some ⟨x.heap.size, 0, none⟩) 0 0) 0 (refCells []) :=
  ⟨rfl, .inr ⟨x.heap.size, 0, #[], rfl, hB, heap_alloc_new x _, Nat.le_refl _, by unfold maxLen; omega, rfl, rfl⟩⟩

theorem own_refs {x : World} {B N : Nat} {v : Value} {l : List Rf} (h : x.ownsRow B 40 2 v N (refCells l)) (hN : N = l.length) (hb : N * 24 ≤ 140737488351232) (hi : ∀ r ∈ l, I64 r.id ∧ r.name.size ≤ 140737488351232) : RefsV (fun _ => True) x v l := by
  subst hN
  exact ⟨own_sl h (fun _ _ => trivial) hb (fun i hn j u hu => refCells_get l i hn j u hu), hi⟩

theorem prefix_cases {a b : ByteArray} (h : inPlace a b = false) : (decide ((a ++ ⟨#[47]⟩ : ByteArray).size ≤ b.size) && ((b.extract 0 (a ++ ⟨#[47]⟩ : ByteArray).size).toList == (a ++ ⟨#[47]⟩ : ByteArray).toList)) = false := by rw [prefix_slash]; exact h

end Go.Proofs.YtkaoldnhooojiaaGreatDoor
