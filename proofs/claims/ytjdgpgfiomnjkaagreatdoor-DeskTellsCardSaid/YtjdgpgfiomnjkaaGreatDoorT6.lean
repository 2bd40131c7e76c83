/- The plain law of updates: what they read as, what is wrong with them, what they make of refs. No program here. -/
import Derived.Test.YtjdgpgfiomnjkaaGreatDoorT5
set_option linter.all false
namespace Go.Proofs.YtjdgpgfiomnjkaaGreatDoor
open Go.RowKit
structure Mv where
 name : ByteArray
 old : Int
 new : Int
def YH : Mv := ⟨ByteArray.empty, 0, 0⟩
def mv (l : List Mv) (i : Nat) : Mv := at_ YH l i
theorem CW {l : List Mv} {i : Nat} (h : i < l.length) : mv l i = l[i] := MR h
theorem Cs {l : List Mv} {i : Nat} (h : i < l.length) : mv l i ∈ l := JN h
theorem Pn {l : List Rf} {i : Nat} (h : i < l.length) : rf l i ∈ l := JN h
def Bo (u : Mv) : List Value := [.string u.name, .int .i64 u.old, .int .i64 u.new]
def AM (S : Nat → Prop) (w : World) (v : Value) (l : List Mv) : Prop :=
 Sl S w v 3 32 l.length (fun i => Bo (mv l i)) ∧ ∀ u ∈ l, DL u.old ∧ DL u.new ∧ u.name.size ≤ 140737488351232
theorem AM.below {S : Nat → Prop} {w w' : World} {v : Value} {l : List Mv} (h : AM S w v l) (hb : Below w.heap.size w w') : AM S w' v l := ⟨h.1.below hb, h.2⟩
theorem AM.weaken {S S' : Nat → Prop} {w : World} {v : Value} {l : List Mv} (h : AM S w v l) (hs : ∀ b, S b → S' b) : AM S' w v l := ⟨h.1.weaken hs, h.2⟩
theorem AM.same {S : Nat → Prop} {w w' : World} {v : Value} {l : List Mv} (h : AM S w v l) (hs : JJ S w w') : AM S w' v l := ⟨h.1.same hs, h.2⟩
theorem AM.nil (S : Nat → Prop) (w : World) (cap : Nat) (a : Option Addr) (h : cap ≤ 9223372036854775807) : AM S w (.slice a 0 cap) [] :=
 ⟨⟨a, cap, rfl, Nat.zero_le _, h, by simp, fun h => absurd h (by simp)⟩, fun x hx => by cases hx⟩
theorem AM.shape {S : Nat → Prop} {w : World} {v : Value} {l : List Mv} (h : AM S w v l) : ∃ p : Option Addr × Nat, v = .slice p.1 l.length p.2 :=
 let ⟨a, cap, hv, _⟩ := h.1; ⟨(a, cap), hv⟩
theorem AM.each {S : Nat → Prop} {w : World} {v : Value} {l : List Mv} (h : AM S w v l) {i : Nat} (hi : i < l.length) : DL (mv l i).old ∧ DL (mv l i).new ∧ (mv l i).name.size ≤ 140737488351232 := h.2 _ (JN hi)
theorem AM.open {S : Nat → Prop} {w : World} {v : Value} {l : List Mv} (h : AM S w v l) :
  ∃ a n cap, Hid (n = l.length) ∧ v = .slice a n cap ∧ n ≤ cap ∧ cap ≤ 9223372036854775807 ∧ n * 32 ≤ 140737488351232 ∧
   (0 < n → ∃ b off, a = some ⟨b, off, none⟩ ∧ S b ∧ (∀ i x, i < n → Below w.heap.size w x → x.cell? ⟨b, off + i * 3, none⟩ = some (.string (mv l i).name)) ∧
    (∀ i x, i < n → Below w.heap.size w x → x.cell? ⟨b, off + i * 3 + 1, none⟩ = some (.int .i64 (mv l i).old)) ∧ (∀ i x, i < n → Below w.heap.size w x → x.cell? ⟨b, off + i * 3 + 2, none⟩ = some (.int .i64 (mv l i).new))) := by
 obtain ⟨a, cap, hv, h1, h2, h3, h4⟩ := h.1
 refine ⟨a, l.length, cap, rfl, hv, h1, h2, h3, fun hn => ?_⟩
 obtain ⟨b, off, ha, hS, hc⟩ := h4 hn
 exact ⟨b, off, ha, hS, fun i x hi hb => Ai hb (hc i hi 0 _ rfl), fun i x hi hb => Ai hb (hc i hi 1 _ rfl), fun i x hi hb => Ai hb (hc i hi 2 _ rfl)⟩
def KT (l : List Mv) (i : Nat) : Bool := (List.range i).any fun k => (mv l k).name.toList == (mv l i).name.toList
def DO (l : List Mv) (i : Nat) : Int :=
 if AQ (mv l i).name ≠ 0 then AQ (mv l i).name
 else if within (mv l i).old 0 99 = false ∨ within (mv l i).new 0 99 = false then 3
 else if (mv l i).old = 0 ∧ (mv l i).new = 0 then 1
 else if KT l i = true then 6 else 0
def AO (l : List Mv) : Int := if l.length = 0 then 5 else if 4 < l.length then 2 else Ap (DO l) l.length
theorem Jm {l : List Mv} (h : l.length = 0) : AO l = 5 := by unfold AO; rw [if_pos h]
theorem JC {l : List Mv} (h : 4 < l.length) : AO l = 2 := by unfold AO; rw [if_neg (by omega), if_pos h]
theorem Kd {l : List Mv} {i : Nat} {e : Int} (h0 : 0 < l.length) (hn : l.length ≤ 4) (hs : Ap (DO l) i = 0) (hi : i < l.length) (he : DO l i = e) (hne : e ≠ 0) : AO l = e := by
 unfold AO; rw [if_neg (by omega), if_neg (by omega), BZ hs (by rw [he]; exact hne) hi, he]
theorem IP {l : List Mv} (h0 : 0 < l.length) (hn : l.length ≤ 4) (hs : Ap (DO l) l.length = 0) : AO l = 0 := by
 unfold AO; rw [if_neg (by omega), if_neg (by omega), hs]
theorem NY {l : List Mv} (h : AO l = 0) : 0 < l.length ∧ l.length ≤ 4 ∧ Ap (DO l) l.length = 0 := by
 unfold AO at h
 by_cases h1 : l.length = 0
 ·rw [if_pos h1] at h; exact absurd h (by decide)
 ·rw [if_neg h1] at h
  by_cases h2 : 4 < l.length
  ·rw [if_pos h2] at h; exact absurd h (by decide)
  ·rw [if_neg h2] at h; exact ⟨by omega, by omega, h⟩
theorem MI {l : List Mv} {i : Nat} : DO l i = 0 ↔ AQ (mv l i).name = 0 ∧ (0 ≤ (mv l i).old ∧ (mv l i).old ≤ 99) ∧ (0 ≤ (mv l i).new ∧ (mv l i).new ≤ 99) ∧ ¬ ((mv l i).old = 0 ∧ (mv l i).new = 0) ∧ ∀ k, k < i → (mv l k).name ≠ (mv l i).name := by
 unfold DO
 by_cases h1 : AQ (mv l i).name = 0
 ·rw [if_neg (by simp [h1])]
  by_cases h2 : within (mv l i).old 0 99 = false ∨ within (mv l i).new 0 99 = false
  ·rw [if_pos h2]
   constructor
   ·intro e; cases e
   ·rintro ⟨_, ha, hb, _⟩
    rcases h2 with h2 | h2
    ·exact absurd ha (DI h2)
    ·exact absurd hb (DI h2)
  ·rw [if_neg h2]
   have ho : within (mv l i).old 0 99 = true := by cases h : within (mv l i).old 0 99; exact absurd (.inl h) h2; rfl
   have hn : within (mv l i).new 0 99 = true := by cases h : within (mv l i).new 0 99; exact absurd (.inr h) h2; rfl
   have ho := Bw ho
   have hn := Bw hn
   by_cases h3 : (mv l i).old = 0 ∧ (mv l i).new = 0
   ·rw [if_pos h3]
    constructor
    ·intro e; cases e
    ·rintro ⟨_, _, _, h, _⟩; exact absurd h3 h
   ·rw [if_neg h3]
    have hd : KT l i = true ↔ ∃ k, k < i ∧ (mv l k).name = (mv l i).name := by
     unfold KT
     rw [List.any_eq_true]
     constructor
     ·rintro ⟨k, hk, e⟩; exact ⟨k, List.mem_range.1 hk, by rw [BE] at e; simpa using e⟩
     ·rintro ⟨k, hk, e⟩; exact ⟨k, List.mem_range.2 hk, by rw [BE]; simpa using e⟩
    by_cases h4 : KT l i = true
    ·rw [if_pos h4]
     constructor
     ·intro e; cases e
     ·rintro ⟨_, _, _, _, h⟩
      obtain ⟨k, hk, e⟩ := hd.1 h4
      exact absurd e (h k hk)
    ·rw [if_neg h4]
     simp only [true_iff]
     exact ⟨h1, ho, hn, h3, fun k hk e => h4 (hd.2 ⟨k, hk, e⟩)⟩
 ·rw [if_pos h1]
  constructor
  ·intro e; exact absurd e h1
  ·rintro ⟨e, _⟩; exact absurd e h1
structure ED (l : List Mv) : Prop where
 some : 0 < l.length
 many : l.length ≤ 4
 name : ∀ u ∈ l, AQ u.name = 0
 old : ∀ u ∈ l, 0 ≤ u.old ∧ u.old ≤ 99
 new : ∀ u ∈ l, 0 ≤ u.new ∧ u.new ≤ 99
 moves : ∀ u ∈ l, ¬ (u.old = 0 ∧ u.new = 0)
 once : l.Pairwise fun a b => a.name ≠ b.name
theorem FC {l : List Mv} {x : Mv} (h : x ∈ l) : ∃ i, i < l.length ∧ mv l i = x := by
 obtain ⟨i, hi, rfl⟩ := List.getElem_of_mem h
 exact ⟨i, hi, CW hi⟩
theorem Ls {l : List Rf} {x : Rf} (h : x ∈ l) : ∃ i, i < l.length ∧ rf l i = x := by
 obtain ⟨i, hi, rfl⟩ := List.getElem_of_mem h
 exact ⟨i, hi, Dr hi⟩
theorem IH {l : List Mv} : AO l = 0 ↔ ED l := by
 constructor
 ·intro h
  obtain ⟨h0, h4, hs⟩ := NY h
  have hz := fun i hi => MI.1 (Bh hs i hi)
  refine ⟨h0, h4, fun u hu => ?_, fun u hu => ?_, fun u hu => ?_, fun u hu => ?_, ?_⟩
  ·obtain ⟨i, hi, rfl⟩ := FC hu; exact (hz i hi).1
  ·obtain ⟨i, hi, rfl⟩ := FC hu; exact (hz i hi).2.1
  ·obtain ⟨i, hi, rfl⟩ := FC hu; exact (hz i hi).2.2.1
  ·obtain ⟨i, hi, rfl⟩ := FC hu; exact (hz i hi).2.2.2.1
  ·rw [List.pairwise_iff_getElem]
   intro i j hi hj hij
   have := (hz j hj).2.2.2.2 i hij
   rwa [CW hi, CW hj] at this
 ·intro h
  refine IP h.some h.many (AW fun i hi => MI.2 ⟨h.name _ (Cs hi), h.old _ (Cs hi), h.new _ (Cs hi), h.moves _ (Cs hi), fun k hk => ?_⟩)
  have := List.pairwise_iff_getElem.1 h.once k i (by omega) hi hk
  rwa [← CW, ← CW] at this
def CM (l : List Rf) (s : ByteArray) : Int := if CE l s = -1 then 0 else (rf l (CE l s).toNat).id
def Kw (l : List Rf) : Prop := l.Pairwise fun a b => Aw a.name b.name = true
theorem Ja {l : List Rf} : Kw l ↔ ∀ i j, i < j → j < l.length → Aw (rf l i).name (rf l j).name = true := by
 unfold Kw
 rw [List.pairwise_iff_getElem]
 constructor
 ·intro h i j hij hj
  have := h i j (by omega) hj hij
  rwa [Dr hj, Dr (by omega)]
 ·intro h i j hi hj hij
  have := h i j hij hj
  rwa [Dr hj, Dr hi] at this
theorem Fg.asc {l : List Rf} {objs : List Obj} (h : Fg l objs) : Kw l := Ja.2 h.up
theorem EZ {a b : ByteArray} (h : Aw a b = true) : Aw b a = false := by
 cases e : Aw b a
 ·rfl
 ·have := DG h e; rw [BP] at this; cases this
theorem Gt {a b : ByteArray} (h : Aw a b = true) : a ≠ b := by rintro rfl; rw [BP] at h; cases h
theorem Fq {a b : ByteArray} (h1 : Aw a b = false) (h2 : Aw b a = false) : a = b := by
 have := XR a b
 rw [show Op.bytesLess a.toList b.toList = Aw a b from rfl, h1, h2, BE] at this
 simpa using this
def Bc (l : List Rf) (s : ByteArray) : List Rf := l.filter fun r => !(r.name.toList == s.toList)
theorem IQ {l : List Rf} {s : ByteArray} {x : Rf} : x ∈ Bc l s ↔ x ∈ l ∧ x.name ≠ s := by
 unfold Bc
 rw [List.mem_filter, BE]
 simp
theorem De (a b : List Rf) (s : ByteArray) : Bc (a ++ b) s = Bc a s ++ Bc b s := by unfold Bc; rw [List.filter_append]
theorem Gl {r : Rf} {s : ByteArray} : Bc [r] s = if r.name.toList == s.toList then [] else [r] := by
 unfold Bc; cases h : (r.name.toList == s.toList) <;> simp [h]
def CV (r : Rf) : List Rf → List Rf
 | [] => [r]
 | x :: l => if Aw x.name r.name then x :: CV r l else r :: x :: l
def CQ (l : List Rf) (s : ByteArray) (id : Int) : List Rf := if id = 0 then Bc l s else CV ⟨s, id⟩ (Bc l s)
theorem Tp {r x : Rf} {l : List Rf} : x ∈ CV r l ↔ x = r ∨ x ∈ l := by
 induction l with
 | nil => simp [CV]
 | cons y l ih =>
  unfold CV
  split
  ·rw [List.mem_cons, ih, List.mem_cons]; constructor
   ·rintro (h | h | h)
    ·exact .inr (.inl h)
    ·exact .inl h
    ·exact .inr (.inr h)
   ·rintro (h | h | h)
    ·exact .inr (.inl h)
    ·exact .inl h
    ·exact .inr (.inr h)
  ·simp
theorem SS (r : Rf) (l : List Rf) : (CV r l).length = l.length + 1 := by
 induction l with
 | nil => rfl
 | cons y l ih => unfold CV; split <;> simp [ih]
theorem SW (l : List Rf) (s : ByteArray) (id : Int) : (CQ l s id).length ≤ l.length + 1 := by
 unfold CQ
 have h : (Bc l s).length ≤ l.length := List.length_filter_le _ _
 split
 ·omega
 ·rw [SS]; omega
theorem GA {l : List Rf} {s : ByteArray} {id : Int} {x : Rf} : x ∈ CQ l s id ↔ (x ∈ l ∧ x.name ≠ s) ∨ (id ≠ 0 ∧ x = ⟨s, id⟩) := by
 unfold CQ
 split
 ·rename_i h; rw [IQ]; simp [h]
 ·rename_i h; rw [Tp, IQ]
  constructor
  ·rintro (h1 | h1)
   ·exact .inr ⟨h, h1⟩
   ·exact .inl h1
  ·rintro (h1 | h1)
   ·exact .inr h1
   ·exact .inl h1.2
theorem Kx {l : List Rf} (h : Kw l) (s : ByteArray) : Kw (Bc l s) := List.Pairwise.filter _ h
theorem Xi {l : List Rf} {r : Rf} (h : Kw l) (hr : ∀ x ∈ l, x.name ≠ r.name) : Kw (CV r l) := by
 induction l with
 | nil => exact List.pairwise_singleton _ _
 | cons y l ih =>
  unfold CV
  have h' := List.pairwise_cons.1 h
  cases e : Aw y.name r.name
  ·rw [if_neg (by simp)]
   refine List.pairwise_cons.2 ⟨fun x hx => ?_, h⟩
   have hy : Aw r.name y.name = true := by
    cases e2 : Aw r.name y.name
    ·exact absurd (Fq e e2) (hr y List.mem_cons_self)
    ·rfl
   rcases List.mem_cons.1 hx with rfl | hx
   ·exact hy
   ·exact DG hy (h'.1 x hx)
  ·rw [if_pos rfl]
   refine List.pairwise_cons.2 ⟨fun x hx => ?_, ih h'.2 fun x hx => hr x (List.mem_cons_of_mem _ hx)⟩
   rcases Tp.1 hx with rfl | hx
   ·exact e
   ·exact h'.1 x hx
theorem Mf {l : List Rf} (h : Kw l) (s : ByteArray) (id : Int) : Kw (CQ l s id) := by
 unfold CQ
 split
 ·exact Kx h s
 ·exact Xi (Kx h s) fun x hx => (IQ.1 hx).2
theorem PF : ∀ {a b : List Rf}, Kw a → Kw b → (∀ x, x ∈ a ↔ x ∈ b) → a = b
 | [], [], _, _, _ => rfl
 | [], y :: b, _, _, h => absurd ((h y).2 List.mem_cons_self) (by simp)
 | x :: a, [], _, _, h => absurd ((h x).1 List.mem_cons_self) (by simp)
 | x :: a, y :: b, ha, hb, h => by
  have ha' := List.pairwise_cons.1 ha
  have hb' := List.pairwise_cons.1 hb
  have e : x = y := by
   have h1 := (h x).1 List.mem_cons_self
   have h2 := (h y).2 List.mem_cons_self
   rcases List.mem_cons.1 h1 with e | h1
   ·exact e
   ·rcases List.mem_cons.1 h2 with e | h2
    ·exact e.symm
    ·have := DG (ha'.1 y h2) (hb'.1 x h1)
     rw [BP] at this; cases this
  subst e
  have : a = b := PF ha'.2 hb'.2 fun z => by
   constructor
   ·intro hz
    rcases List.mem_cons.1 ((h z).1 (List.mem_cons_of_mem _ hz)) with e | h1
    ·exact absurd (congrArg Rf.name e).symm (Gt (ha'.1 z hz))
    ·exact h1
   ·intro hz
    rcases List.mem_cons.1 ((h z).2 (List.mem_cons_of_mem _ hz)) with e | h1
    ·exact absurd (congrArg Rf.name e).symm (Gt (hb'.1 z hz))
    ·exact h1
  rw [this]
theorem Qc {l : List Rf} (h : Kw l) {x y : Rf} (hx : x ∈ l) (hy : y ∈ l) (e : x.name = y.name) : x = y := by
 obtain ⟨i, hi, rfl⟩ := Ls hx
 obtain ⟨j, hj, rfl⟩ := Ls hy
 rcases Nat.lt_trichotomy i j with h1 | rfl | h1
 ·exact absurd e (Gt (Ja.1 h i j h1 hj))
 ·rfl
 ·exact absurd e.symm (Gt (Ja.1 h j i h1 hi))
theorem DR {l : List Rf} {s : ByteArray} : CE l s = -1 ↔ ∀ x ∈ l, x.name ≠ s := by
 unfold CE
 cases h : l.findIdx? (fun r => r.name.toList == s.toList) with
 | none =>
  rw [List.findIdx?_eq_none_iff] at h
  simp only [true_iff]
  intro x hx e
  have := h x hx
  rw [e] at this; simp at this
 | some i =>
  rw [List.findIdx?_eq_some_iff_getElem] at h
  obtain ⟨hi, he, _⟩ := h
  constructor
  ·intro e; simp only at e; omega
  ·intro hx
   exact absurd (by rw [BE] at he; simpa using he) (hx _ (List.getElem_mem hi))
theorem Gv {l : List Rf} {s : ByteArray} (h : CE l s ≠ -1) : ∃ i, i < l.length ∧ CE l s = (i : Int) ∧ (rf l i).name = s := by
 rcases PN l s with h1 | ⟨i, hi, h1, h2⟩
 ·exact absurd h1 h
 ·exact ⟨i, hi, h1, h2⟩
theorem Mw {l : List Rf} (h : Kw l) {x : Rf} (hx : x ∈ l) : CM l x.name = x.id := by
 unfold CM
 by_cases e : CE l x.name = -1
 ·exact absurd rfl (DR.1 e x hx)
 ·rw [if_neg e]
  obtain ⟨i, hi, h1, h2⟩ := Gv e
  rw [h1]
  have := Qc h (Pn hi) hx h2
  simp only [Int.toNat_natCast, this]
theorem KP {l : List Rf} {s : ByteArray} (h : ∀ x ∈ l, x.name ≠ s) : CM l s = 0 := by unfold CM; rw [if_pos (DR.2 h)]
theorem EM {l : List Rf} (h : Kw l) (s : ByteArray) : (CM l s = 0 ∧ ∀ x ∈ l, x.name ≠ s) ∨ ∃ x ∈ l, x.name = s ∧ CM l s = x.id := by
 by_cases e : CE l s = -1
 ·exact .inl ⟨KP (DR.1 e), DR.1 e⟩
 ·obtain ⟨i, hi, h1, h2⟩ := Gv e
  refine .inr ⟨rf l i, Pn hi, h2, ?_⟩
  unfold CM; rw [if_neg e, h1]; rfl
def Ga (l : List Rf) (s : ByteArray) (id : Int) : Nat → Bool
 | 0 => id == 0
 | k + 1 => Ga l s id k || Aw s (rf l k).name
def IL (l : List Rf) (s : ByteArray) (id : Int) : Nat → List Rf
 | 0 => []
 | k + 1 => IL l s id k ++ (if !Ga l s id k && Aw s (rf l k).name then [⟨s, id⟩] else []) ++ (if (rf l k).name.toList == s.toList then [] else [rf l k])
theorem Tt {r : Rf} {a b : List Rf} (h : ∀ x ∈ a, Aw x.name r.name = true) : CV r (a ++ b) = a ++ CV r b := by
 induction a with
 | nil => rfl
 | cons x a ih =>
  rw [List.cons_append, CV, if_pos (h x List.mem_cons_self), ih fun y hy => h y (List.mem_cons_of_mem _ hy)]
  rfl
theorem Wz {r : Rf} {a b : List Rf} (h : ∃ x ∈ a, Aw x.name r.name = false) : CV r (a ++ b) = CV r a ++ b := by
 induction a with
 | nil => obtain ⟨x, hx, _⟩ := h; cases hx
 | cons x a ih =>
  rw [List.cons_append, CV, CV]
  cases e : Aw x.name r.name
  ·simp
  ·obtain ⟨y, hy, h2⟩ := h
   rcases List.mem_cons.1 hy with rfl | hy
   ·rw [e] at h2; cases h2
   ·simp only [if_true, List.cons_append]; rw [ih ⟨y, hy, h2⟩]
theorem JW {l : List Rf} {n : Nat} (h : n < l.length) : l.take (n + 1) = l.take n ++ [rf l n] := by
 rw [List.take_succ_eq_append_getElem h, Dr h]
theorem UQ (l : List Rf) (s : ByteArray) (id : Int) : ∀ k, k ≤ l.length →
  (id = 0 → Ga l s id k = true ∧ IL l s id k = Bc (l.take k) s) ∧
  (id ≠ 0 → (Ga l s id k = false ∧ IL l s id k = Bc (l.take k) s ∧ ∀ x ∈ l.take k, Aw s x.name = false) ∨
   (Ga l s id k = true ∧ IL l s id k = CV ⟨s, id⟩ (Bc (l.take k) s) ∧ ∃ y ∈ Bc (l.take k) s, Aw y.name s = false)) := by
 intro k
 induction k with
 | zero =>
  intro _
  refine ⟨fun h => ⟨by simp [Ga, h], rfl⟩, fun h => .inl ⟨by simp [Ga, h], rfl, fun x hx => by simp at hx⟩⟩
 | succ k ih =>
  intro hk
  obtain ⟨ih1, ih2⟩ := ih (by omega)
  have hts := JW (l := l) (n := k) (by omega)
  refine ⟨fun h => ?_, fun h => ?_⟩
  ·obtain ⟨h1, h2⟩ := ih1 h
   refine ⟨by simp [Ga, h1], ?_⟩
   rw [hts, De, Gl, IL, h1, h2]; simp
  ·rcases ih2 h with ⟨h1, h2, h3⟩ | ⟨h1, h2, h3⟩
   ·cases e : Aw s (rf l k).name
    ·refine .inl ⟨by simp [Ga, h1, e], ?_, fun x hx => ?_⟩
     ·rw [hts, De, Gl, IL, h1, h2, e]; simp
     ·rw [hts] at hx
      rcases List.mem_append.1 hx with hx | hx
      ·exact h3 x hx
      ·rw [List.mem_singleton.1 hx]; exact e
    ·have hne : ((rf l k).name.toList == s.toList) = false := by
      rw [BE, decide_eq_false_iff_not]; intro e2; rw [e2, BP] at e; cases e
     refine .inr ⟨by simp [Ga, e], ?_, rf l k, ?_, EZ e⟩
     ·rw [hts, De, Gl, IL, h1, h2, e, hne, Tt]
      ·simp [CV, EZ e]
      ·intro x hx
       obtain ⟨hx, hxn⟩ := IQ.1 hx
       cases e3 : Aw x.name s
       ·exact absurd (Fq e3 (h3 x hx)) hxn
       ·rfl
     ·rw [hts, De, Gl, hne]; simp
   ·refine .inr ⟨by simp [Ga, h1], ?_, ?_⟩
    ·rw [hts, De, Gl, Wz h3, IL, h1, h2]; simp
    ·obtain ⟨y, hy, h4⟩ := h3
     exact ⟨y, by rw [hts, De]; exact List.mem_append_left _ hy, h4⟩
theorem UB (l : List Rf) (s : ByteArray) (id : Int) : IL l s id l.length ++ (if Ga l s id l.length then [] else [⟨s, id⟩]) = CQ l s id := by
 obtain ⟨h1, h2⟩ := UQ l s id l.length (Nat.le_refl _)
 rw [List.take_length] at h1 h2
 unfold CQ
 by_cases h : id = 0
 ·obtain ⟨a, b⟩ := h1 h; rw [if_pos h, a, b]; simp
 ·rw [if_neg h]
  rcases h2 h with ⟨a, b, c⟩ | ⟨a, b, c⟩
  ·rw [a, b]
   have := Tt (r := ⟨s, id⟩) (a := Bc l s) (b := []) (fun x hx => by
    obtain ⟨hx, hxn⟩ := IQ.1 hx
    cases e3 : Aw x.name s
    ·exact absurd (Fq e3 (c x hx)) hxn
    ·rfl)
   rw [List.append_nil] at this
   rw [this]; simp [CV]
  ·rw [a, b]; simp
def Xm (l : List Rf) (s : ByteArray) : Nat := (l.takeWhile fun x => Aw x.name s).length
def Lj (l : List Rf) (i : Nat) (r : Rf) : List Rf := l.take i ++ [r] ++ l.drop i
theorem Ym (l : List Rf) (s : ByteArray) : Xm l s ≤ l.length := (List.takeWhile_prefix _).length_le
theorem Xp (l : List Rf) (r : Rf) : Lj l (Xm l r.name) r = CV r l := by
 unfold Lj Xm
 induction l with
 | nil => rfl
 | cons x l ih =>
  rw [CV, List.takeWhile_cons]
  cases e : Aw x.name r.name
  ·simp
  ·simp only [if_true, List.length_cons, List.take_succ_cons, List.drop_succ_cons]
   simp only [List.cons_append, List.cons.injEq, true_and]
   simpa using ih
theorem Px {l : List Rf} (h : Kw l) {i : Nat} (hi : i < l.length) {s : ByteArray} (e : (rf l i).name = s) : without l i = Bc l s := by
 have h1 : Bc (l.take i) s = l.take i := by
  unfold Bc
  rw [List.filter_eq_self]
  intro x hx
  rw [BE]
  obtain ⟨j, hj, rfl⟩ := List.getElem_of_mem hx
  have hj' : j < i := by simp at hj; omega
  have := Gt (Ja.1 h j i hj' hi)
  rw [e, Dr (show j < l.length by omega)] at this
  simp only [List.getElem_take]
  simpa using this
 have h2 : Bc (l.drop (i + 1)) s = l.drop (i + 1) := by
  unfold Bc
  rw [List.filter_eq_self]
  intro x hx
  rw [BE]
  obtain ⟨j, hj, rfl⟩ := List.getElem_of_mem hx
  have hj' : i + 1 + j < l.length := by simp at hj; omega
  have := Gt (Ja.1 h i (i + 1 + j) (by omega) hj')
  rw [e, Dr hj'] at this
  simp only [List.getElem_drop]
  simpa using fun e => this e.symm
 have h3 : l = l.take i ++ [rf l i] ++ l.drop (i + 1) := by
  rw [← JW hi, List.take_append_drop]
 unfold without
 conv => rhs; rw [h3]
 rw [De, De, h1, h2, Gl, e]
 simp
theorem UJ {l : List Rf} {s : ByteArray} (h : CE l s = -1) : Bc l s = l := by
 unfold Bc
 rw [List.filter_eq_self]
 intro x hx
 rw [BE]
 simpa using DR.1 h x hx
def Cq (l : List Rf) (objs : List Obj) (u : Mv) (force : Bool) : Int :=
 if CM l u.name ≠ u.old then 4
 else if u.new = 0 then 0
 else if AG objs u.new ≠ 0 then AG objs u.new
 else if u.old ≠ 0 ∧ force = false ∧ Dh objs u.old u.new = false then 4 else 0
def AL (l : List Rf) (us : List Mv) : Nat → List Rf
 | 0 => l
 | k + 1 => CQ (AL l us k) (mv us k).name (mv us k).new
def BC (l : List Rf) (objs : List Obj) (us : List Mv) (force : Bool) (k : Nat) : Int := Cq (AL l us k) objs (mv us k) force
def Ca (l : List Rf) (objs : List Obj) (us : List Mv) (force : Bool) : Int :=
 if Ap (BC l objs us force) us.length = 0 then AD (AL l us us.length) objs else Ap (BC l objs us force) us.length
def EB (l : List Rf) (objs : List Obj) (us : List Mv) (force : Bool) : List Rf := if Ca l objs us force = 0 then AL l us us.length else []
def CN (l : List Rf) (objs : List Obj) (us : List Mv) (force : Bool) : Int :=
 if Aq l objs ≠ 0 then Aq l objs else if AO us ≠ 0 then AO us else Ca l objs us force
def Ef (l : List Rf) (objs : List Obj) (us : List Mv) (force : Bool) : List Rf := if CN l objs us force = 0 then AL l us us.length else []
theorem EL {l : List Rf} (h : Kw l) (us : List Mv) : ∀ k, Kw (AL l us k)
 | 0 => h
 | k + 1 => Mf (EL h us k) _ _
theorem ET (l : List Rf) (us : List Mv) : ∀ k, (AL l us k).length ≤ l.length + k
 | 0 => Nat.le_refl _
 | k + 1 => by have := SW (AL l us k) (mv us k).name (mv us k).new; have := ET l us k; show (CQ _ _ _).length ≤ _; omega
theorem GD {l : List Rf} {objs : List Obj} {u : Mv} {force : Bool} : Cq l objs u force = 0 ↔
  CM l u.name = u.old ∧ (u.new ≠ 0 → Az objs u.new = 3 ∧ (u.old ≠ 0 → force = false → Dh objs u.old u.new = true)) := by
 unfold Cq
 by_cases h1 : CM l u.name = u.old
 ·rw [if_neg (by simp [h1])]
  by_cases h2 : u.new = 0
  ·rw [if_pos h2]; simp [h1, h2]
  ·rw [if_neg h2]
   by_cases h3 : AG objs u.new = 0
   ·rw [if_neg (by simp [h3])]
    have h3' := Du.1 h3
    by_cases h4 : u.old ≠ 0 ∧ force = false ∧ Dh objs u.old u.new = false
    ·rw [if_pos h4]
     constructor
     ·intro e; cases e
     ·rintro ⟨_, h⟩
      have := (h h2).2 h4.1 h4.2.1
      rw [h4.2.2] at this; cases this
    ·rw [if_neg h4]
     simp only [true_iff]
     refine ⟨h1, fun _ => ⟨h3', fun h5 h6 => ?_⟩⟩
     cases h7 : Dh objs u.old u.new
     ·exact absurd ⟨h5, h6, h7⟩ h4
     ·rfl
   ·rw [if_pos h3]
    constructor
    ·intro e; exact absurd e h3
    ·rintro ⟨_, h⟩; exact absurd (Du.2 (h h2).1) h3
 ·rw [if_pos h1]
  constructor
  ·intro e; cases e
  ·rintro ⟨e, _⟩; exact absurd e h1
theorem Fu {l : List Rf} {objs : List Obj} {us : List Mv} {force : Bool} (h : ∀ r ∈ l, Az objs r.id = 3) : ∀ k, Ap (BC l objs us force) k = 0 → ∀ r ∈ AL l us k, Az objs r.id = 3
 | 0, _, r, hr => h r hr
 | k + 1, hs, r, hr => by
  have h1 := Bh hs
  rcases GA.1 hr with ⟨hr, _⟩ | ⟨hn, rfl⟩
  ·exact Fu h k (AW fun i hi => h1 i (by omega)) r hr
  ·exact ((GD.1 (h1 k (by omega))).2 hn).1
end Go.Proofs.YtjdgpgfiomnjkaaGreatDoor
