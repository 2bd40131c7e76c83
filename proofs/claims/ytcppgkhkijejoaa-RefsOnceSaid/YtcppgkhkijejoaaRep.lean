/- What the program's data read as: []int, api.Object, []api.Object, api.Ref, .. as plain Lean data. No program here. -/
import Derived.Test.YtcppgkhkijejoaaMem
namespace Go.Proofs.Ytcppgkhkijejoaa
open Go.RowKit
set_option linter.unusedVariables false
set_option linter.unusedSimpArgs false

structure Obj where
  id : Int
  kind : Int
  links : List Int
  text : ByteArray

def obj0 : Obj := ⟨0, 0, [], ByteArray.empty⟩
def nth (xs : List Int) (i : Nat) : Int := at_ 0 xs i
def obj (l : List Obj) (i : Nat) : Obj := at_ obj0 l i
theorem nth_lt {l : List Int} {i : Nat} (h : i < l.length) : nth l i = l[i] := at_lt h
theorem obj_lt {l : List Obj} {i : Nat} (h : i < l.length) : obj l i = l[i] := at_lt h

/-- a []int -/
def IntsV (S : Nat → Prop) (w : World) (v : Value) (xs : List Int) : Prop :=
  Sl S w v 1 8 xs.length (fun i => [.int .i64 (nth xs i)]) ∧ ∀ x ∈ xs, I64 x

theorem IntsV.below {S : Nat → Prop} {w w' : World} {v : Value} {xs : List Int} (h : IntsV S w v xs) (hb : Below w.heap.size w w') : IntsV S w' v xs := ⟨h.1.below hb, h.2⟩
theorem IntsV.weaken {S S' : Nat → Prop} {w : World} {v : Value} {xs : List Int} (h : IntsV S w v xs) (hs : ∀ b, S b → S' b) : IntsV S' w v xs := ⟨h.1.weaken hs, h.2⟩
theorem IntsV.same {S : Nat → Prop} {w w' : World} {v : Value} {xs : List Int} (h : IntsV S w v xs) (hs : SameOn S w w') : IntsV S w' v xs := ⟨h.1.same hs, h.2⟩
theorem IntsV.i64 {S : Nat → Prop} {w : World} {v : Value} {xs : List Int} (h : IntsV S w v xs) (i : Nat) (hi : i < xs.length) : I64 (nth xs i) := h.2 _ (at_mem hi)

/-- opened for a walk: the cells read so in every later world; the length behind a name -/
theorem IntsV.open {S : Nat → Prop} {w : World} {v : Value} {xs : List Int} (h : IntsV S w v xs) :
    ∃ a n cap, Hid (n = xs.length) ∧ v = .slice a n cap ∧ n ≤ cap ∧ cap ≤ 9223372036854775807 ∧ n * 8 ≤ 140737488351232 ∧
      (0 < n → ∃ b off, a = some ⟨b, off, none⟩ ∧ S b ∧ ∀ i x, i < n → Below w.heap.size w x → x.cell? ⟨b, off + i, none⟩ = some (.int .i64 (nth xs i))) := by
  obtain ⟨a, cap, hv, h1, h2, h3, h4⟩ := h.1
  refine ⟨a, xs.length, cap, rfl, hv, h1, h2, h3, fun hn => ?_⟩
  obtain ⟨b, off, ha, hS, hc⟩ := h4 hn
  exact ⟨b, off, ha, hS, fun i x hi hb => by have := below_cell hb (hc i hi 0 _ rfl); simpa using this⟩

theorem IntsV.nil (S : Nat → Prop) (w : World) (cap : Nat) (a : Option Addr) (h : cap ≤ 9223372036854775807) : IntsV S w (.slice a 0 cap) [] :=
  ⟨⟨a, cap, rfl, Nat.zero_le _, h, by simp, fun h => absurd h (by simp)⟩, fun x hx => by cases hx⟩

/-- out of a row of cells -/
theorem IntsV.mk {S : Nat → Prop} {w : World} {xs : List Int} {b off cap : Nat} (h1 : xs.length ≤ cap) (h2 : cap ≤ 9223372036854775807) (h3 : xs.length * 8 ≤ 140737488351232) (hS : S b)
    (hc : ∀ i, i < xs.length → w.cell? ⟨b, off + i, none⟩ = some (.int .i64 (nth xs i))) (hi : ∀ x ∈ xs, I64 x) : IntsV S w (.slice (some ⟨b, off, none⟩) xs.length cap) xs :=
  ⟨⟨_, cap, rfl, h1, h2, h3, fun _ => ⟨b, off, rfl, hS, fun i hn j u hu => by
    match j, hu with
    | 0, hu => simp at hu; subst hu; simpa using hc i hn⟩⟩, hi⟩

/-- an api.Object's cells, its links' slice value lv -/
def objCells (o : Obj) (lv : Value) : List Value := [.int .i64 o.id, .int .i64 o.kind, lv, .string o.text]
def ObjIs (S : Nat → Prop) (w : World) (o : Obj) (lv : Value) : Prop := IntsV S w lv o.links ∧ I64 o.id ∧ I64 o.kind ∧ o.text.size ≤ 140737488351232

theorem ObjIs.below {S : Nat → Prop} {w w' : World} {o : Obj} {lv : Value} (h : ObjIs S w o lv) (hb : Below w.heap.size w w') : ObjIs S w' o lv := ⟨h.1.below hb, h.2⟩
theorem ObjIs.weaken {S S' : Nat → Prop} {w : World} {o : Obj} {lv : Value} (h : ObjIs S w o lv) (hs : ∀ b, S b → S' b) : ObjIs S' w o lv := ⟨h.1.weaken hs, h.2⟩
theorem ObjIs.same {S : Nat → Prop} {w w' : World} {o : Obj} {lv : Value} (h : ObjIs S w o lv) (hs : SameOn S w w') : ObjIs S w' o lv := ⟨h.1.same hs, h.2⟩

/-- a []api.Object -/
def StoreV (S : Nat → Prop) (w : World) (v : Value) (l : List Obj) : Prop :=
  ∃ lvs : Nat → Value, Sl S w v 4 56 l.length (fun i => objCells (obj l i) (lvs i)) ∧ ∀ i, i < l.length → ObjIs S w (obj l i) (lvs i)

theorem StoreV.below {S : Nat → Prop} {w w' : World} {v : Value} {l : List Obj} (h : StoreV S w v l) (hb : Below w.heap.size w w') : StoreV S w' v l :=
  let ⟨lvs, h1, h2⟩ := h; ⟨lvs, h1.below hb, fun i hi => (h2 i hi).below hb⟩
theorem StoreV.weaken {S S' : Nat → Prop} {w : World} {v : Value} {l : List Obj} (h : StoreV S w v l) (hs : ∀ b, S b → S' b) : StoreV S' w v l :=
  let ⟨lvs, h1, h2⟩ := h; ⟨lvs, h1.weaken hs, fun i hi => (h2 i hi).weaken hs⟩
theorem StoreV.same {S : Nat → Prop} {w w' : World} {v : Value} {l : List Obj} (h : StoreV S w v l) (hs : SameOn S w w') : StoreV S w' v l :=
  let ⟨lvs, h1, h2⟩ := h; ⟨lvs, h1.same hs, fun i hi => (h2 i hi).same hs⟩

theorem StoreV.nil (S : Nat → Prop) (w : World) (cap : Nat) (a : Option Addr) (h : cap ≤ 9223372036854775807) : StoreV S w (.slice a 0 cap) [] :=
  ⟨fun _ => .nilFunc, ⟨a, cap, rfl, Nat.zero_le _, h, by simp, fun h => absurd h (by simp)⟩, fun i hi => by simp at hi⟩

theorem IntsV.shape {S : Nat → Prop} {w : World} {v : Value} {xs : List Int} (h : IntsV S w v xs) : ∃ p : Option Addr × Nat, v = .slice p.1 xs.length p.2 :=
  let ⟨a, cap, hv, _⟩ := h.1; ⟨(a, cap), hv⟩

/-- opened for a walk: the cells read so in every later world; lengths behind names -/
theorem StoreV.open {S : Nat → Prop} {w : World} {v : Value} {l : List Obj} (h : StoreV S w v l) :
    ∃ a n cap, ∃ la : Nat → Option Addr, ∃ ln lc : Nat → Nat, Hid (n = l.length ∧ ∀ i, ln i = (obj l i).links.length) ∧ v = .slice a n cap ∧ n ≤ cap ∧ cap ≤ 9223372036854775807 ∧ n * 56 ≤ 140737488351232 ∧
      (0 < n → ∃ b off, a = some ⟨b, off, none⟩ ∧ S b ∧
        (∀ i x, i < n → Below w.heap.size w x → x.cell? ⟨b, off + i * 4, none⟩ = some (.int .i64 (obj l i).id)) ∧
        (∀ i x, i < n → Below w.heap.size w x → x.cell? ⟨b, off + i * 4 + 1, none⟩ = some (.int .i64 (obj l i).kind)) ∧
        (∀ i x, i < n → Below w.heap.size w x → x.cell? ⟨b, off + i * 4 + 2, none⟩ = some (.slice (la i) (ln i) (lc i))) ∧
        (∀ i x, i < n → Below w.heap.size w x → x.cell? ⟨b, off + i * 4 + 3, none⟩ = some (.string (obj l i).text))) ∧
      (∀ i, i < n → ObjIs S w (obj l i) (.slice (la i) (ln i) (lc i))) := by
  obtain ⟨lvs, h1, h2⟩ := h
  have hp : ∃ p : Nat → Option Addr × Nat, ∀ i, i < l.length → lvs i = .slice (p i).1 (obj l i).links.length (p i).2 := by
    refine ⟨fun i => if hi : i < l.length then Classical.choose (h2 i hi).1.shape else (none, 0), fun i hi => ?_⟩
    simp only [hi, dif_pos]
    exact Classical.choose_spec (h2 i hi).1.shape
  obtain ⟨p, hp⟩ := hp
  obtain ⟨a, cap, hv, h3, h4, h5, h6⟩ := h1
  refine ⟨a, l.length, cap, fun i => (p i).1, fun i => (obj l i).links.length, fun i => (p i).2, ⟨rfl, fun _ => rfl⟩, hv, h3, h4, h5, fun hn => ?_, fun i hi => hp i hi ▸ h2 i hi⟩
  obtain ⟨b, off, ha, hS, hc⟩ := h6 hn
  refine ⟨b, off, ha, hS, fun i x hi hb => ?_, fun i x hi hb => ?_, fun i x hi hb => ?_, fun i x hi hb => ?_⟩
  · have := below_cell hb (hc i hi 0 _ rfl); simpa using this
  · exact below_cell hb (hc i hi 1 _ rfl)
  · have := below_cell hb (hc i hi 2 _ rfl); rw [hp i hi] at this; exact this
  · exact below_cell hb (hc i hi 3 _ rfl)

end Go.Proofs.Ytcppgkhkijejoaa
