
/- The plain law of updates: what they read as, what is wrong with them, what they make of refs. No program here. -/
import Derived.Test.YtjdgpgfiomnjkaaGreatDoorQ3
import Derived.Test.YtjdgpgfiomnjkaaGreatDoorQ6
namespace Go.Proofs.YtjdgpgfiomnjkaaGreatDoor
open Go.RowKit
set_option linter.unusedVariables false
set_option linter.unusedSimpArgs false
set_option linter.unusedSectionVars false
variable [Ghost]
structure Mv where
 name : ByteArray
 old : Int
 new : Int
def mv0 : Mv := ⟨ByteArray.empty, 0, 0⟩
def mv (l : List Mv) (i : Nat) : Mv := at_ mv0 l i
theorem mv_lt {l : List Mv} {i : Nat} (h : i < l.length) : mv l i = l[i] := at_lt h
theorem mv_mem {l : List Mv} {i : Nat} (h : i < l.length) : mv l i ∈ l := at_mem h
theorem rf_mem {l : List Rf} {i : Nat} (h : i < l.length) : rf l i ∈ l := at_mem h
def mvCells (u : Mv) : List Value := [.string u.name, .int .i64 u.old, .int .i64 u.new]
def MvsV (S : Nat → Prop) (w : World) (v : Value) (l : List Mv) : Prop :=
 Sl S w v 3 32 l.length (fun i => mvCells (mv l i)) ∧ ∀ u ∈ l, I64 u.old ∧ I64 u.new ∧ u.name.size ≤ 140737488351232
theorem MvsV.below {S : Nat → Prop} {w w' : World} {v : Value} {l : List Mv} (h : MvsV S w v l) (hb : Below w.heap.size w w') : MvsV S w' v l := ⟨h.1.below hb, h.2⟩
theorem MvsV.weaken {S S' : Nat → Prop} {w : World} {v : Value} {l : List Mv} (h : MvsV S w v l) (hs : ∀ b, S b → S' b) : MvsV S' w v l := ⟨h.1.weaken hs, h.2⟩
theorem MvsV.same {S : Nat → Prop} {w w' : World} {v : Value} {l : List Mv} (h : MvsV S w v l) (hs : SameOn S w w') : MvsV S w' v l := ⟨h.1.same hs, h.2⟩
theorem MvsV.nil (S : Nat → Prop) (w : World) (cap : Nat) (a : Option Addr) (h : cap ≤ 9223372036854775807) : MvsV S w (.slice a 0 cap) [] :=
 ⟨⟨a, cap, rfl, Nat.zero_le _, h, by simp, fun h => absurd h (by simp)⟩, fun x hx => by cases hx⟩
theorem MvsV.shape {S : Nat → Prop} {w : World} {v : Value} {l : List Mv} (h : MvsV S w v l) : ∃ p : Option Addr × Nat, v = .slice p.1 l.length p.2 :=
 let ⟨a, cap, hv, _⟩ := h.1; ⟨(a, cap), hv⟩
theorem MvsV.each {S : Nat → Prop} {w : World} {v : Value} {l : List Mv} (h : MvsV S w v l) {i : Nat} (hi : i < l.length) : I64 (mv l i).old ∧ I64 (mv l i).new ∧ (mv l i).name.size ≤ 140737488351232 := h.2 _ (at_mem hi)
theorem MvsV.open {S : Nat → Prop} {w : World} {v : Value} {l : List Mv} (h : MvsV S w v l) :
  ∃ a n cap, Hid (n = l.length) ∧ v = .slice a n cap ∧ n ≤ cap ∧ cap ≤ 9223372036854775807 ∧ n * 32 ≤ 140737488351232 ∧
   (0 < n → ∃ b off, a = some ⟨b, off, none⟩ ∧ S b ∧ (∀ i x, i < n → Below w.heap.size w x → x.cell? ⟨b, off + i * 3, none⟩ = some (.string (mv l i).name)) ∧
    (∀ i x, i < n → Below w.heap.size w x → x.cell? ⟨b, off + i * 3 + 1, none⟩ = some (.int .i64 (mv l i).old)) ∧ (∀ i x, i < n → Below w.heap.size w x → x.cell? ⟨b, off + i * 3 + 2, none⟩ = some (.int .i64 (mv l i).new))) := by
 obtain ⟨a, cap, hv, h1, h2, h3, h4⟩ := h.1
 refine ⟨a, l.length, cap, rfl, hv, h1, h2, h3, fun hn => ?_⟩
 obtain ⟨b, off, ha, hS, hc⟩ := h4 hn
 exact ⟨b, off, ha, hS.1, fun i x hi hb => below_cell hb (hc i hi 0 _ rfl), fun i x hi hb => below_cell hb (hc i hi 1 _ rfl), fun i x hi hb => below_cell hb (hc i hi 2 _ rfl)⟩
def dupB (l : List Mv) (i : Nat) : Bool := (List.range i).any fun k => (mv l k).name.toList == (mv l i).name.toList
def mvErr (l : List Mv) (i : Nat) : Int :=
 if nameErr (mv l i).name ≠ 0 then nameErr (mv l i).name
 else if within (mv l i).old 0 99 = false ∨ within (mv l i).new 0 99 = false then 3
 else if (mv l i).old = 0 ∧ (mv l i).new = 0 then 1
 else if dupB l i = true then 6 else 0
def checkMvs (l : List Mv) : Int := if l.length = 0 then 5 else if 4 < l.length then 2 else scan (mvErr l) l.length
theorem checkMvs_none {l : List Mv} (h : l.length = 0) : checkMvs l = 5 := by unfold checkMvs; rw [if_pos h]
theorem checkMvs_many {l : List Mv} (h : 4 < l.length) : checkMvs l = 2 := by unfold checkMvs; rw [if_neg (by omega), if_pos h]
theorem checkMvs_bad {l : List Mv} {i : Nat} {e : Int} (h0 : 0 < l.length) (hn : l.length ≤ 4) (hs : scan (mvErr l) i = 0) (hi : i < l.length) (he : mvErr l i = e) (hne : e ≠ 0) : checkMvs l = e := by
 unfold checkMvs; rw [if_neg (by omega), if_neg (by omega), scan_hit hs (by rw [he]; exact hne) hi, he]
theorem checkMvs_ok {l : List Mv} (h0 : 0 < l.length) (hn : l.length ≤ 4) (hs : scan (mvErr l) l.length = 0) : checkMvs l = 0 := by
 unfold checkMvs; rw [if_neg (by omega), if_neg (by omega), hs]
theorem checkMvs_zero {l : List Mv} (h : checkMvs l = 0) : 0 < l.length ∧ l.length ≤ 4 ∧ scan (mvErr l) l.length = 0 := by
 unfold checkMvs at h
 by_cases h1 : l.length = 0
 ·rw [if_pos h1] at h; exact absurd h (by decide)
 ·rw [if_neg h1] at h
  by_cases h2 : 4 < l.length
  ·rw [if_pos h2] at h; exact absurd h (by decide)
  ·rw [if_neg h2] at h; exact ⟨by omega, by omega, h⟩
theorem mvErr_zero {l : List Mv} {i : Nat} : mvErr l i = 0 ↔ nameErr (mv l i).name = 0 ∧ (0 ≤ (mv l i).old ∧ (mv l i).old ≤ 99) ∧ (0 ≤ (mv l i).new ∧ (mv l i).new ≤ 99) ∧ ¬ ((mv l i).old = 0 ∧ (mv l i).new = 0) ∧ ∀ k, k < i → (mv l k).name ≠ (mv l i).name := by
 unfold mvErr
 by_cases h1 : nameErr (mv l i).name = 0
 ·rw [if_neg (by simp [h1])]
  by_cases h2 : within (mv l i).old 0 99 = false ∨ within (mv l i).new 0 99 = false
  ·rw [if_pos h2]
   constructor
   ·intro e; cases e
   ·rintro ⟨_, ha, hb, _⟩
    rcases h2 with h2 | h2
    ·exact absurd ha (within_false h2)
    ·exact absurd hb (within_false h2)
  ·rw [if_neg h2]
   have ho : within (mv l i).old 0 99 = true := by cases h : within (mv l i).old 0 99; exact absurd (.inl h) h2; rfl
   have hn : within (mv l i).new 0 99 = true := by cases h : within (mv l i).new 0 99; exact absurd (.inr h) h2; rfl
   have ho := within_true ho
   have hn := within_true hn
   by_cases h3 : (mv l i).old = 0 ∧ (mv l i).new = 0
   ·rw [if_pos h3]
    constructor
    ·intro e; cases e
    ·rintro ⟨_, _, _, h, _⟩; exact absurd h3 h
   ·rw [if_neg h3]
    have hd : dupB l i = true ↔ ∃ k, k < i ∧ (mv l k).name = (mv l i).name := by
     unfold dupB
     rw [List.any_eq_true]
     constructor
     ·rintro ⟨k, hk, e⟩; exact ⟨k, List.mem_range.1 hk, by rw [text_eq] at e; simpa using e⟩
     ·rintro ⟨k, hk, e⟩; exact ⟨k, List.mem_range.2 hk, by rw [text_eq]; simpa using e⟩
    by_cases h4 : dupB l i = true
    ·rw [if_pos h4]
     constructor
     ·intro e; cases e
     ·rintro ⟨_, _, _, _, h⟩
      obtain ⟨k, hk, e⟩ := hd.1 h4
      exact absurd e (h k hk)
    ·rw [if_neg h4]
     simp only [true_iff]
     exact ⟨h1, ho, hn, h3, fun k hk e => h4 (hd.2 ⟨k, hk, e⟩)⟩
 ·rw [if_pos h1]
  constructor
  ·intro e; exact absurd e h1
  ·rintro ⟨e, _⟩; exact absurd e h1
structure MvsOk (l : List Mv) : Prop where
 some : 0 < l.length
 many : l.length ≤ 4
 name : ∀ u ∈ l, nameErr u.name = 0
 old : ∀ u ∈ l, 0 ≤ u.old ∧ u.old ≤ 99
 new : ∀ u ∈ l, 0 ≤ u.new ∧ u.new ≤ 99
 moves : ∀ u ∈ l, ¬ (u.old = 0 ∧ u.new = 0)
 once : l.Pairwise fun a b => a.name ≠ b.name
theorem mem_mv {l : List Mv} {x : Mv} (h : x ∈ l) : ∃ i, i < l.length ∧ mv l i = x := by
 obtain ⟨i, hi, rfl⟩ := List.getElem_of_mem h
 exact ⟨i, hi, mv_lt hi⟩
theorem mem_rf {l : List Rf} {x : Rf} (h : x ∈ l) : ∃ i, i < l.length ∧ rf l i = x := by
 obtain ⟨i, hi, rfl⟩ := List.getElem_of_mem h
 exact ⟨i, hi, rf_lt hi⟩
theorem mvs_ok {l : List Mv} : checkMvs l = 0 ↔ MvsOk l := by
 constructor
 ·intro h
  obtain ⟨h0, h4, hs⟩ := checkMvs_zero h
  have hz := fun i hi => mvErr_zero.1 (scan_zero hs i hi)
  refine ⟨h0, h4, fun u hu => ?_, fun u hu => ?_, fun u hu => ?_, fun u hu => ?_, ?_⟩
  ·obtain ⟨i, hi, rfl⟩ := mem_mv hu; exact (hz i hi).1
  ·obtain ⟨i, hi, rfl⟩ := mem_mv hu; exact (hz i hi).2.1
  ·obtain ⟨i, hi, rfl⟩ := mem_mv hu; exact (hz i hi).2.2.1
  ·obtain ⟨i, hi, rfl⟩ := mem_mv hu; exact (hz i hi).2.2.2.1
  ·rw [List.pairwise_iff_getElem]
   intro i j hi hj hij
   have := (hz j hj).2.2.2.2 i hij
   rwa [mv_lt hi, mv_lt hj] at this
 ·intro h
  refine checkMvs_ok h.some h.many (scan_of_zero fun i hi => mvErr_zero.2 ⟨h.name _ (mv_mem hi), h.old _ (mv_mem hi), h.new _ (mv_mem hi), h.moves _ (mv_mem hi), fun k hk => ?_⟩)
  have := List.pairwise_iff_getElem.1 h.once k i (by omega) hi hk
  rwa [← mv_lt, ← mv_lt] at this
def idOf (l : List Rf) (s : ByteArray) : Int := if findRf l s = -1 then 0 else (rf l (findRf l s).toNat).id
def Asc (l : List Rf) : Prop := l.Pairwise fun a b => strLt a.name b.name = true
theorem asc_iff {l : List Rf} : Asc l ↔ ∀ i j, i < j → j < l.length → strLt (rf l i).name (rf l j).name = true := by
 unfold Asc
 rw [List.pairwise_iff_getElem]
 constructor
 ·intro h i j hij hj
  have := h i j (by omega) hj hij
  rwa [rf_lt hj, rf_lt (by omega)]
 ·intro h i j hi hj hij
  have := h i j hij hj
  rwa [rf_lt hj, rf_lt hi] at this
theorem RefsOk.asc {l : List Rf} {objs : List Obj} (h : RefsOk l objs) : Asc l := asc_iff.2 h.up
theorem strLt_asymm {a b : ByteArray} (h : strLt a b = true) : strLt b a = false := by
 cases e : strLt b a
 ·rfl
 ·have := strLt_trans h e; rw [strLt_irrefl] at this; cases this
theorem strLt_ne {a b : ByteArray} (h : strLt a b = true) : a ≠ b := by rintro rfl; rw [strLt_irrefl] at h; cases h
theorem strLt_tri {a b : ByteArray} (h1 : strLt a b = false) (h2 : strLt b a = false) : a = b := by
 have := strLe a b
 rw [show Op.bytesLess a.toList b.toList = strLt a b from rfl, h1, h2, text_eq] at this
 simpa using this
def keepRf (l : List Rf) (s : ByteArray) : List Rf := l.filter fun r => !(r.name.toList == s.toList)
theorem mem_keep {l : List Rf} {s : ByteArray} {x : Rf} : x ∈ keepRf l s ↔ x ∈ l ∧ x.name ≠ s := by
 unfold keepRf
 rw [List.mem_filter, text_eq]
 simp
theorem keep_append (a b : List Rf) (s : ByteArray) : keepRf (a ++ b) s = keepRf a s ++ keepRf b s := by unfold keepRf; rw [List.filter_append]
theorem keep_one {r : Rf} {s : ByteArray} : keepRf [r] s = if r.name.toList == s.toList then [] else [r] := by
 unfold keepRf; cases h : (r.name.toList == s.toList) <;> simp [h]
def putRf (r : Rf) : List Rf → List Rf
 | [] => [r]
 | x :: l => if strLt x.name r.name then x :: putRf r l else r :: x :: l
def setRf (l : List Rf) (s : ByteArray) (id : Int) : List Rf := if id = 0 then keepRf l s else putRf ⟨s, id⟩ (keepRf l s)
theorem mem_put {r x : Rf} {l : List Rf} : x ∈ putRf r l ↔ x = r ∨ x ∈ l := by
 induction l with
 | nil => simp [putRf]
 | cons y l ih =>
  unfold putRf
  split
  ·rw [List.mem_cons, ih, List.mem_cons]; constructor
   ·rintro (h | h | h)
    ·exact .inr (.inl h)
    ·exact .inl h
    ·exact .inr (.inr h)
   ·rintro (h | h | h)
    ·exact .inr (.inl h)
    ·exact .inl h
    ·exact .inr (.inr h)
  ·simp
theorem put_length (r : Rf) (l : List Rf) : (putRf r l).length = l.length + 1 := by
 induction l with
 | nil => rfl
 | cons y l ih => unfold putRf; split <;> simp [ih]
theorem set_length (l : List Rf) (s : ByteArray) (id : Int) : (setRf l s id).length ≤ l.length + 1 := by
 unfold setRf
 have h : (keepRf l s).length ≤ l.length := List.length_filter_le _ _
 split
 ·omega
 ·rw [put_length]; omega
theorem mem_set {l : List Rf} {s : ByteArray} {id : Int} {x : Rf} : x ∈ setRf l s id ↔ (x ∈ l ∧ x.name ≠ s) ∨ (id ≠ 0 ∧ x = ⟨s, id⟩) := by
 unfold setRf
 split
 ·rename_i h; rw [mem_keep]; simp [h]
 ·rename_i h; rw [mem_put, mem_keep]
  constructor
  ·rintro (h1 | h1)
   ·exact .inr ⟨h, h1⟩
   ·exact .inl h1
  ·rintro (h1 | h1)
   ·exact .inr h1
   ·exact .inl h1.2
theorem keep_asc {l : List Rf} (h : Asc l) (s : ByteArray) : Asc (keepRf l s) := List.Pairwise.filter _ h
theorem put_asc {l : List Rf} {r : Rf} (h : Asc l) (hr : ∀ x ∈ l, x.name ≠ r.name) : Asc (putRf r l) := by
 induction l with
 | nil => exact List.pairwise_singleton _ _
 | cons y l ih =>
  unfold putRf
  have h' := List.pairwise_cons.1 h
  cases e : strLt y.name r.name
  ·rw [if_neg (by simp)]
   refine List.pairwise_cons.2 ⟨fun x hx => ?_, h⟩
   have hy : strLt r.name y.name = true := by
    cases e2 : strLt r.name y.name
    ·exact absurd (strLt_tri e e2) (hr y List.mem_cons_self)
    ·rfl
   rcases List.mem_cons.1 hx with rfl | hx
   ·exact hy
   ·exact strLt_trans hy (h'.1 x hx)
  ·rw [if_pos rfl]
   refine List.pairwise_cons.2 ⟨fun x hx => ?_, ih h'.2 fun x hx => hr x (List.mem_cons_of_mem _ hx)⟩
   rcases mem_put.1 hx with rfl | hx
   ·exact e
   ·exact h'.1 x hx
theorem set_asc {l : List Rf} (h : Asc l) (s : ByteArray) (id : Int) : Asc (setRf l s id) := by
 unfold setRf
 split
 ·exact keep_asc h s
 ·exact put_asc (keep_asc h s) fun x hx => (mem_keep.1 hx).2
theorem asc_ext : ∀ {a b : List Rf}, Asc a → Asc b → (∀ x, x ∈ a ↔ x ∈ b) → a = b
 | [], [], _, _, _ => rfl
 | [], y :: b, _, _, h => absurd ((h y).2 List.mem_cons_self) (by simp)
 | x :: a, [], _, _, h => absurd ((h x).1 List.mem_cons_self) (by simp)
 | x :: a, y :: b, ha, hb, h => by
  have ha' := List.pairwise_cons.1 ha
  have hb' := List.pairwise_cons.1 hb
  have e : x = y := by
   have h1 := (h x).1 List.mem_cons_self
   have h2 := (h y).2 List.mem_cons_self
   rcases List.mem_cons.1 h1 with e | h1
   ·exact e
   ·rcases List.mem_cons.1 h2 with e | h2
    ·exact e.symm
    ·have := strLt_trans (ha'.1 y h2) (hb'.1 x h1)
     rw [strLt_irrefl] at this; cases this
  subst e
  have : a = b := asc_ext ha'.2 hb'.2 fun z => by
   constructor
   ·intro hz
    rcases List.mem_cons.1 ((h z).1 (List.mem_cons_of_mem _ hz)) with e | h1
    ·exact absurd (congrArg Rf.name e).symm (strLt_ne (ha'.1 z hz))
    ·exact h1
   ·intro hz
    rcases List.mem_cons.1 ((h z).2 (List.mem_cons_of_mem _ hz)) with e | h1
    ·exact absurd (congrArg Rf.name e).symm (strLt_ne (hb'.1 z hz))
    ·exact h1
  rw [this]
theorem asc_once {l : List Rf} (h : Asc l) {x y : Rf} (hx : x ∈ l) (hy : y ∈ l) (e : x.name = y.name) : x = y := by
 obtain ⟨i, hi, rfl⟩ := mem_rf hx
 obtain ⟨j, hj, rfl⟩ := mem_rf hy
 rcases Nat.lt_trichotomy i j with h1 | rfl | h1
 ·exact absurd e (strLt_ne (asc_iff.1 h i j h1 hj))
 ·rfl
 ·exact absurd e.symm (strLt_ne (asc_iff.1 h j i h1 hi))
theorem find_none_iff {l : List Rf} {s : ByteArray} : findRf l s = -1 ↔ ∀ x ∈ l, x.name ≠ s := by
 unfold findRf
 cases h : l.findIdx? (fun r => r.name.toList == s.toList) with
 | none =>
  rw [List.findIdx?_eq_none_iff] at h
  simp only [true_iff]
  intro x hx e
  have := h x hx
  rw [e] at this; simp at this
 | some i =>
  rw [List.findIdx?_eq_some_iff_getElem] at h
  obtain ⟨hi, he, _⟩ := h
  constructor
  ·intro e; simp only at e; omega
  ·intro hx
   exact absurd (by rw [text_eq] at he; simpa using he) (hx _ (List.getElem_mem hi))
theorem find_some {l : List Rf} {s : ByteArray} (h : findRf l s ≠ -1) : ∃ i, i < l.length ∧ findRf l s = (i : Int) ∧ (rf l i).name = s := by
 rcases findRf_cases l s with h1 | ⟨i, hi, h1, h2⟩
 ·exact absurd h1 h
 ·exact ⟨i, hi, h1, h2⟩
theorem idOf_mem {l : List Rf} (h : Asc l) {x : Rf} (hx : x ∈ l) : idOf l x.name = x.id := by
 unfold idOf
 by_cases e : findRf l x.name = -1
 ·exact absurd rfl (find_none_iff.1 e x hx)
 ·rw [if_neg e]
  obtain ⟨i, hi, h1, h2⟩ := find_some e
  rw [h1]
  have := asc_once h (rf_mem hi) hx h2
  simp only [Int.toNat_natCast, this]
theorem idOf_none {l : List Rf} {s : ByteArray} (h : ∀ x ∈ l, x.name ≠ s) : idOf l s = 0 := by unfold idOf; rw [if_pos (find_none_iff.2 h)]
theorem idOf_cases {l : List Rf} (h : Asc l) (s : ByteArray) : (idOf l s = 0 ∧ ∀ x ∈ l, x.name ≠ s) ∨ ∃ x ∈ l, x.name = s ∧ idOf l s = x.id := by
 by_cases e : findRf l s = -1
 ·exact .inl ⟨idOf_none (find_none_iff.1 e), find_none_iff.1 e⟩
 ·obtain ⟨i, hi, h1, h2⟩ := find_some e
  refine .inr ⟨rf l i, rf_mem hi, h2, ?_⟩
  unfold idOf; rw [if_neg e, h1]; rfl
def wPut (l : List Rf) (s : ByteArray) (id : Int) : Nat → Bool
 | 0 => id == 0
 | k + 1 => wPut l s id k || strLt s (rf l k).name
def wOut (l : List Rf) (s : ByteArray) (id : Int) : Nat → List Rf
 | 0 => []
 | k + 1 => wOut l s id k ++ (if !wPut l s id k && strLt s (rf l k).name then [⟨s, id⟩] else []) ++ (if (rf l k).name.toList == s.toList then [] else [rf l k])
theorem put_all {r : Rf} {a b : List Rf} (h : ∀ x ∈ a, strLt x.name r.name = true) : putRf r (a ++ b) = a ++ putRf r b := by
 induction a with
 | nil => rfl
 | cons x a ih =>
  rw [List.cons_append, putRf, if_pos (h x List.mem_cons_self), ih fun y hy => h y (List.mem_cons_of_mem _ hy)]
  rfl
theorem put_some {r : Rf} {a b : List Rf} (h : ∃ x ∈ a, strLt x.name r.name = false) : putRf r (a ++ b) = putRf r a ++ b := by
 induction a with
 | nil => obtain ⟨x, hx, _⟩ := h; cases hx
 | cons x a ih =>
  rw [List.cons_append, putRf, putRf]
  cases e : strLt x.name r.name
  ·simp
  ·obtain ⟨y, hy, h2⟩ := h
   rcases List.mem_cons.1 hy with rfl | hy
   ·rw [e] at h2; cases h2
   ·simp only [if_true, List.cons_append]; rw [ih ⟨y, hy, h2⟩]
theorem take_snoc_rf {l : List Rf} {n : Nat} (h : n < l.length) : l.take (n + 1) = l.take n ++ [rf l n] := by
 rw [List.take_succ_eq_append_getElem h, rf_lt h]
theorem wOut_spec (l : List Rf) (s : ByteArray) (id : Int) : ∀ k, k ≤ l.length →
  (id = 0 → wPut l s id k = true ∧ wOut l s id k = keepRf (l.take k) s) ∧
  (id ≠ 0 → (wPut l s id k = false ∧ wOut l s id k = keepRf (l.take k) s ∧ ∀ x ∈ l.take k, strLt s x.name = false) ∨
   (wPut l s id k = true ∧ wOut l s id k = putRf ⟨s, id⟩ (keepRf (l.take k) s) ∧ ∃ y ∈ keepRf (l.take k) s, strLt y.name s = false)) := by
 intro k
 induction k with
 | zero =>
  intro _
  refine ⟨fun h => ⟨by simp [wPut, h], rfl⟩, fun h => .inl ⟨by simp [wPut, h], rfl, fun x hx => by simp at hx⟩⟩
 | succ k ih =>
  intro hk
  obtain ⟨ih1, ih2⟩ := ih (by omega)
  have hts := take_snoc_rf (l := l) (n := k) (by omega)
  refine ⟨fun h => ?_, fun h => ?_⟩
  ·obtain ⟨h1, h2⟩ := ih1 h
   refine ⟨by simp [wPut, h1], ?_⟩
   rw [hts, keep_append, keep_one, wOut, h1, h2]; simp
  ·rcases ih2 h with ⟨h1, h2, h3⟩ | ⟨h1, h2, h3⟩
   ·cases e : strLt s (rf l k).name
    ·refine .inl ⟨by simp [wPut, h1, e], ?_, fun x hx => ?_⟩
     ·rw [hts, keep_append, keep_one, wOut, h1, h2, e]; simp
     ·rw [hts] at hx
      rcases List.mem_append.1 hx with hx | hx
      ·exact h3 x hx
      ·rw [List.mem_singleton.1 hx]; exact e
    ·have hne : ((rf l k).name.toList == s.toList) = false := by
      rw [text_eq, decide_eq_false_iff_not]; intro e2; rw [e2, strLt_irrefl] at e; cases e
     refine .inr ⟨by simp [wPut, e], ?_, rf l k, ?_, strLt_asymm e⟩
     ·rw [hts, keep_append, keep_one, wOut, h1, h2, e, hne, put_all]
      ·simp [putRf, strLt_asymm e]
      ·intro x hx
       obtain ⟨hx, hxn⟩ := mem_keep.1 hx
       cases e3 : strLt x.name s
       ·exact absurd (strLt_tri e3 (h3 x hx)) hxn
       ·rfl
     ·rw [hts, keep_append, keep_one, hne]; simp
   ·refine .inr ⟨by simp [wPut, h1], ?_, ?_⟩
    ·rw [hts, keep_append, keep_one, put_some h3, wOut, h1, h2]; simp
    ·obtain ⟨y, hy, h4⟩ := h3
     exact ⟨y, by rw [hts, keep_append]; exact List.mem_append_left _ hy, h4⟩
theorem with_spec (l : List Rf) (s : ByteArray) (id : Int) : wOut l s id l.length ++ (if wPut l s id l.length then [] else [⟨s, id⟩]) = setRf l s id := by
 obtain ⟨h1, h2⟩ := wOut_spec l s id l.length (Nat.le_refl _)
 rw [List.take_length] at h1 h2
 unfold setRf
 by_cases h : id = 0
 ·obtain ⟨a, b⟩ := h1 h; rw [if_pos h, a, b]; simp
 ·rw [if_neg h]
  rcases h2 h with ⟨a, b, c⟩ | ⟨a, b, c⟩
  ·rw [a, b]
   have := put_all (r := ⟨s, id⟩) (a := keepRf l s) (b := []) (fun x hx => by
    obtain ⟨hx, hxn⟩ := mem_keep.1 hx
    cases e3 : strLt x.name s
    ·exact absurd (strLt_tri e3 (c x hx)) hxn
    ·rfl)
   rw [List.append_nil] at this
   rw [this]; simp [putRf]
  ·rw [a, b]; simp
def loR (l : List Rf) (s : ByteArray) : Nat := (l.takeWhile fun x => strLt x.name s).length
def insR (l : List Rf) (i : Nat) (r : Rf) : List Rf := l.take i ++ [r] ++ l.drop i
theorem loR_le (l : List Rf) (s : ByteArray) : loR l s ≤ l.length := (List.takeWhile_prefix _).length_le
theorem ins_put (l : List Rf) (r : Rf) : insR l (loR l r.name) r = putRf r l := by
 unfold insR loR
 induction l with
 | nil => rfl
 | cons x l ih =>
  rw [putRf, List.takeWhile_cons]
  cases e : strLt x.name r.name
  ·simp
  ·simp only [if_true, List.length_cons, List.take_succ_cons, List.drop_succ_cons]
   simp only [List.cons_append, List.cons.injEq, true_and]
   simpa using ih
theorem without_keep {l : List Rf} (h : Asc l) {i : Nat} (hi : i < l.length) {s : ByteArray} (e : (rf l i).name = s) : without l i = keepRf l s := by
 have h1 : keepRf (l.take i) s = l.take i := by
  unfold keepRf
  rw [List.filter_eq_self]
  intro x hx
  rw [text_eq]
  obtain ⟨j, hj, rfl⟩ := List.getElem_of_mem hx
  have hj' : j < i := by simp at hj; omega
  have := strLt_ne (asc_iff.1 h j i hj' hi)
  rw [e, rf_lt (show j < l.length by omega)] at this
  simp only [List.getElem_take]
  simpa using this
 have h2 : keepRf (l.drop (i + 1)) s = l.drop (i + 1) := by
  unfold keepRf
  rw [List.filter_eq_self]
  intro x hx
  rw [text_eq]
  obtain ⟨j, hj, rfl⟩ := List.getElem_of_mem hx
  have hj' : i + 1 + j < l.length := by simp at hj; omega
  have := strLt_ne (asc_iff.1 h i (i + 1 + j) (by omega) hj')
  rw [e, rf_lt hj'] at this
  simp only [List.getElem_drop]
  simpa using fun e => this e.symm
 have h3 : l = l.take i ++ [rf l i] ++ l.drop (i + 1) := by
  rw [← take_snoc_rf hi, List.take_append_drop]
 unfold without
 conv => rhs; rw [h3]
 rw [keep_append, keep_append, h1, h2, keep_one, e]
 simp
theorem keep_none {l : List Rf} {s : ByteArray} (h : findRf l s = -1) : keepRf l s = l := by
 unfold keepRf
 rw [List.filter_eq_self]
 intro x hx
 rw [text_eq]
 simpa using find_none_iff.1 h x hx
def moveErr (l : List Rf) (objs : List Obj) (u : Mv) (force : Bool) : Int :=
 if idOf l u.name ≠ u.old then 4
 else if u.new = 0 then 0
 else if commitErr objs u.new ≠ 0 then commitErr objs u.new
 else if u.old ≠ 0 ∧ force = false ∧ behindB objs u.old u.new = false then 4 else 0
def movedL (l : List Rf) (us : List Mv) : Nat → List Rf
 | 0 => l
 | k + 1 => setRf (movedL l us k) (mv us k).name (mv us k).new
def movedErr (l : List Rf) (objs : List Obj) (us : List Mv) (force : Bool) (k : Nat) : Int := moveErr (movedL l us k) objs (mv us k) force
def movedE (l : List Rf) (objs : List Obj) (us : List Mv) (force : Bool) : Int :=
 if scan (movedErr l objs us force) us.length = 0 then rightErr (movedL l us us.length) objs else scan (movedErr l objs us force) us.length
def movedR (l : List Rf) (objs : List Obj) (us : List Mv) (force : Bool) : List Rf := if movedE l objs us force = 0 then movedL l us us.length else []
def applyE (l : List Rf) (objs : List Obj) (us : List Mv) (force : Bool) : Int :=
 if checkRefs l objs ≠ 0 then checkRefs l objs else if checkMvs us ≠ 0 then checkMvs us else movedE l objs us force
def applyR (l : List Rf) (objs : List Obj) (us : List Mv) (force : Bool) : List Rf := if applyE l objs us force = 0 then movedL l us us.length else []
theorem movedL_asc {l : List Rf} (h : Asc l) (us : List Mv) : ∀ k, Asc (movedL l us k)
 | 0 => h
 | k + 1 => set_asc (movedL_asc h us k) _ _
theorem movedL_length (l : List Rf) (us : List Mv) : ∀ k, (movedL l us k).length ≤ l.length + k
 | 0 => Nat.le_refl _
 | k + 1 => by have := set_length (movedL l us k) (mv us k).name (mv us k).new; have := movedL_length l us k; show (setRf _ _ _).length ≤ _; omega
theorem moveErr_zero {l : List Rf} {objs : List Obj} {u : Mv} {force : Bool} : moveErr l objs u force = 0 ↔
  idOf l u.name = u.old ∧ (u.new ≠ 0 → kindOf objs u.new = 3 ∧ (u.old ≠ 0 → force = false → behindB objs u.old u.new = true)) := by
 unfold moveErr
 by_cases h1 : idOf l u.name = u.old
 ·rw [if_neg (by simp [h1])]
  by_cases h2 : u.new = 0
  ·rw [if_pos h2]; simp [h1, h2]
  ·rw [if_neg h2]
   by_cases h3 : commitErr objs u.new = 0
   ·rw [if_neg (by simp [h3])]
    have h3' := commitErr_zero.1 h3
    by_cases h4 : u.old ≠ 0 ∧ force = false ∧ behindB objs u.old u.new = false
    ·rw [if_pos h4]
     constructor
     ·intro e; cases e
     ·rintro ⟨_, h⟩
      have := (h h2).2 h4.1 h4.2.1
      rw [h4.2.2] at this; cases this
    ·rw [if_neg h4]
     simp only [true_iff]
     refine ⟨h1, fun _ => ⟨h3', fun h5 h6 => ?_⟩⟩
     cases h7 : behindB objs u.old u.new
     ·exact absurd ⟨h5, h6, h7⟩ h4
     ·rfl
   ·rw [if_pos h3]
    constructor
    ·intro e; exact absurd e h3
    ·rintro ⟨_, h⟩; exact absurd (commitErr_zero.2 (h h2).1) h3
 ·rw [if_pos h1]
  constructor
  ·intro e; cases e
  ·rintro ⟨e, _⟩; exact absurd e h1
theorem movedL_commits {l : List Rf} {objs : List Obj} {us : List Mv} {force : Bool} (h : ∀ r ∈ l, kindOf objs r.id = 3) : ∀ k, scan (movedErr l objs us force) k = 0 → ∀ r ∈ movedL l us k, kindOf objs r.id = 3
 | 0, _, r, hr => h r hr
 | k + 1, hs, r, hr => by
  have h1 := scan_zero hs
  rcases mem_set.1 hr with ⟨hr, _⟩ | ⟨hn, rfl⟩
  ·exact movedL_commits h k (scan_of_zero fun i hi => h1 i (by omega)) r hr
  ·exact ((moveErr_zero.1 (h1 k (by omega))).2 hn).1
end Go.Proofs.YtjdgpgfiomnjkaaGreatDoor
