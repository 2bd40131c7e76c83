/- The plain law of updates: what they read as, what is wrong with them, what they make of refs. No program here. -/
import Derived.Test.YtjdgpgfiomnjkaaGreatDoorR5
set_option linter.all false
namespace Go.Proofs.YtjdgpgfiomnjkaaGreatDoor
open Go.RowKit
structure Mv where
 name : ByteArray
 old : Int
 new : Int
def Yw : Mv := ⟨ByteArray.empty, 0, 0⟩
def mv (l : List Mv) (i : Nat) : Mv := at_ Yw l i
theorem CW {l : List Mv} {i : Nat} (h : i < l.length) : mv l i = l[i] := Li h
theorem Cs {l : List Mv} {i : Nat} (h : i < l.length) : mv l i ∈ l := Jv h
theorem Pf {l : List Rf} {i : Nat} (h : i < l.length) : rf l i ∈ l := Jv h
def Bo (u : Mv) : List Value := [.string u.name, .int .i64 u.old, .int .i64 u.new]
def AM (S : Nat → Prop) (w : World) (v : Value) (l : List Mv) : Prop :=
 Sl S w v 3 32 l.length (fun i => Bo (mv l i)) ∧ ∀ u ∈ l, DO u.old ∧ DO u.new ∧ u.name.size ≤ 140737488351232
theorem AM.below {S : Nat → Prop} {w w' : World} {v : Value} {l : List Mv} (h : AM S w v l) (hb : Below w.heap.size w w') : AM S w' v l := ⟨h.1.below hb, h.2⟩
theorem AM.weaken {S S' : Nat → Prop} {w : World} {v : Value} {l : List Mv} (h : AM S w v l) (hs : ∀ b, S b → S' b) : AM S' w v l := ⟨h.1.weaken hs, h.2⟩
theorem AM.same {S : Nat → Prop} {w w' : World} {v : Value} {l : List Mv} (h : AM S w v l) (hs : JH S w w') : AM S w' v l := ⟨h.1.same hs, h.2⟩
theorem AM.nil (S : Nat → Prop) (w : World) (cap : Nat) (a : Option Addr) (h : cap ≤ 9223372036854775807) : AM S w (.slice a 0 cap) [] :=
 ⟨⟨a, cap, rfl, Nat.zero_le _, h, by simp, fun h => absurd h (by simp)⟩, fun x hx => by cases hx⟩
theorem AM.shape {S : Nat → Prop} {w : World} {v : Value} {l : List Mv} (h : AM S w v l) : ∃ p : Option Addr × Nat, v = .slice p.1 l.length p.2 :=
 let ⟨a, cap, hv, _⟩ := h.1; ⟨(a, cap), hv⟩
theorem AM.each {S : Nat → Prop} {w : World} {v : Value} {l : List Mv} (h : AM S w v l) {i : Nat} (hi : i < l.length) : DO (mv l i).old ∧ DO (mv l i).new ∧ (mv l i).name.size ≤ 140737488351232 := h.2 _ (Jv hi)
theorem AM.open {S : Nat → Prop} {w : World} {v : Value} {l : List Mv} (h : AM S w v l) :
  ∃ a n cap, Hid (n = l.length) ∧ v = .slice a n cap ∧ n ≤ cap ∧ cap ≤ 9223372036854775807 ∧ n * 32 ≤ 140737488351232 ∧
   (0 < n → ∃ b off, a = some ⟨b, off, none⟩ ∧ S b ∧ (∀ i x, i < n → Below w.heap.size w x → x.cell? ⟨b, off + i * 3, none⟩ = some (.string (mv l i).name)) ∧
    (∀ i x, i < n → Below w.heap.size w x → x.cell? ⟨b, off + i * 3 + 1, none⟩ = some (.int .i64 (mv l i).old)) ∧ (∀ i x, i < n → Below w.heap.size w x → x.cell? ⟨b, off + i * 3 + 2, none⟩ = some (.int .i64 (mv l i).new))) := by
 obtain ⟨a, cap, hv, h1, h2, h3, h4⟩ := h.1
 refine ⟨a, l.length, cap, rfl, hv, h1, h2, h3, fun hn => ?_⟩
 obtain ⟨b, off, ha, hS, hc⟩ := h4 hn
 exact ⟨b, off, ha, hS, fun i x hi hb => Ah hb (hc i hi 0 _ rfl), fun i x hi hb => Ah hb (hc i hi 1 _ rfl), fun i x hi hb => Ah hb (hc i hi 2 _ rfl)⟩
def KZ (l : List Mv) (i : Nat) : Bool := (List.range i).any fun k => (mv l k).name.toList == (mv l i).name.toList
def DS (l : List Mv) (i : Nat) : Int :=
 if AQ (mv l i).name ≠ 0 then AQ (mv l i).name
 else if within (mv l i).old 0 99 = false ∨ within (mv l i).new 0 99 = false then 3
 else if (mv l i).old = 0 ∧ (mv l i).new = 0 then 1
 else if KZ l i = true then 6 else 0
def AO (l : List Mv) : Int := if l.length = 0 then 5 else if 4 < l.length then 2 else Ao (DS l) l.length
theorem Jt {l : List Mv} (h : l.length = 0) : AO l = 5 := by unfold AO; rw [if_pos h]
theorem Js {l : List Mv} (h : 4 < l.length) : AO l = 2 := by unfold AO; rw [if_neg (by omega), if_pos h]
theorem Kh {l : List Mv} {i : Nat} {e : Int} (h0 : 0 < l.length) (hn : l.length ≤ 4) (hs : Ao (DS l) i = 0) (hi : i < l.length) (he : DS l i = e) (hne : e ≠ 0) : AO l = e := by
 unfold AO; rw [if_neg (by omega), if_neg (by omega), BY hs (by rw [he]; exact hne) hi, he]
theorem IR {l : List Mv} (h0 : 0 < l.length) (hn : l.length ≤ 4) (hs : Ao (DS l) l.length = 0) : AO l = 0 := by
 unfold AO; rw [if_neg (by omega), if_neg (by omega), hs]
theorem NM {l : List Mv} (h : AO l = 0) : 0 < l.length ∧ l.length ≤ 4 ∧ Ao (DS l) l.length = 0 := by
 unfold AO at h
 by_cases h1 : l.length = 0
 ·rw [if_pos h1] at h; exact absurd h (by decide)
 ·rw [if_neg h1] at h
  by_cases h2 : 4 < l.length
  ·rw [if_pos h2] at h; exact absurd h (by decide)
  ·rw [if_neg h2] at h; exact ⟨by omega, by omega, h⟩
theorem Nz {l : List Mv} {i : Nat} : DS l i = 0 ↔ AQ (mv l i).name = 0 ∧ (0 ≤ (mv l i).old ∧ (mv l i).old ≤ 99) ∧ (0 ≤ (mv l i).new ∧ (mv l i).new ≤ 99) ∧ ¬ ((mv l i).old = 0 ∧ (mv l i).new = 0) ∧ ∀ k, k < i → (mv l k).name ≠ (mv l i).name := by
 unfold DS
 by_cases h1 : AQ (mv l i).name = 0
 ·rw [if_neg (by simp [h1])]
  by_cases h2 : within (mv l i).old 0 99 = false ∨ within (mv l i).new 0 99 = false
  ·rw [if_pos h2]
   constructor
   ·intro e; cases e
   ·rintro ⟨_, ha, hb, _⟩
    rcases h2 with h2 | h2
    ·exact absurd ha (DK h2)
    ·exact absurd hb (DK h2)
  ·rw [if_neg h2]
   have ho : within (mv l i).old 0 99 = true := by cases h : within (mv l i).old 0 99; exact absurd (.inl h) h2; rfl
   have hn : within (mv l i).new 0 99 = true := by cases h : within (mv l i).new 0 99; exact absurd (.inr h) h2; rfl
   have ho := Bt ho
   have hn := Bt hn
   by_cases h3 : (mv l i).old = 0 ∧ (mv l i).new = 0
   ·rw [if_pos h3]
    constructor
    ·intro e; cases e
    ·rintro ⟨_, _, _, h, _⟩; exact absurd h3 h
   ·rw [if_neg h3]
    have hd : KZ l i = true ↔ ∃ k, k < i ∧ (mv l k).name = (mv l i).name := by
     unfold KZ
     rw [List.any_eq_true]
     constructor
     ·rintro ⟨k, hk, e⟩; exact ⟨k, List.mem_range.1 hk, by rw [BB] at e; simpa using e⟩
     ·rintro ⟨k, hk, e⟩; exact ⟨k, List.mem_range.2 hk, by rw [BB]; simpa using e⟩
    by_cases h4 : KZ l i = true
    ·rw [if_pos h4]
     constructor
     ·intro e; cases e
     ·rintro ⟨_, _, _, _, h⟩
      obtain ⟨k, hk, e⟩ := hd.1 h4
      exact absurd e (h k hk)
    ·rw [if_neg h4]
     simp only [true_iff]
     exact ⟨h1, ho, hn, h3, fun k hk e => h4 (hd.2 ⟨k, hk, e⟩)⟩
 ·rw [if_pos h1]
  constructor
  ·intro e; exact absurd e h1
  ·rintro ⟨e, _⟩; exact absurd e h1
structure EG (l : List Mv) : Prop where
 some : 0 < l.length
 many : l.length ≤ 4
 name : ∀ u ∈ l, AQ u.name = 0
 old : ∀ u ∈ l, 0 ≤ u.old ∧ u.old ≤ 99
 new : ∀ u ∈ l, 0 ≤ u.new ∧ u.new ≤ 99
 moves : ∀ u ∈ l, ¬ (u.old = 0 ∧ u.new = 0)
 once : l.Pairwise fun a b => a.name ≠ b.name
theorem Fy {l : List Mv} {x : Mv} (h : x ∈ l) : ∃ i, i < l.length ∧ mv l i = x := by
 obtain ⟨i, hi, rfl⟩ := List.getElem_of_mem h
 exact ⟨i, hi, CW hi⟩
theorem KI {l : List Rf} {x : Rf} (h : x ∈ l) : ∃ i, i < l.length ∧ rf l i = x := by
 obtain ⟨i, hi, rfl⟩ := List.getElem_of_mem h
 exact ⟨i, hi, DG hi⟩
theorem IG {l : List Mv} : AO l = 0 ↔ EG l := by
 constructor
 ·intro h
  obtain ⟨h0, h4, hs⟩ := NM h
  have hz := fun i hi => Nz.1 (Be hs i hi)
  refine ⟨h0, h4, fun u hu => ?_, fun u hu => ?_, fun u hu => ?_, fun u hu => ?_, ?_⟩
  ·obtain ⟨i, hi, rfl⟩ := Fy hu; exact (hz i hi).1
  ·obtain ⟨i, hi, rfl⟩ := Fy hu; exact (hz i hi).2.1
  ·obtain ⟨i, hi, rfl⟩ := Fy hu; exact (hz i hi).2.2.1
  ·obtain ⟨i, hi, rfl⟩ := Fy hu; exact (hz i hi).2.2.2.1
  ·rw [List.pairwise_iff_getElem]
   intro i j hi hj hij
   have := (hz j hj).2.2.2.2 i hij
   rwa [CW hi, CW hj] at this
 ·intro h
  refine IR h.some h.many (AW fun i hi => Nz.2 ⟨h.name _ (Cs hi), h.old _ (Cs hi), h.new _ (Cs hi), h.moves _ (Cs hi), fun k hk => ?_⟩)
  have := List.pairwise_iff_getElem.1 h.once k i (by omega) hi hk
  rwa [← CW, ← CW] at this
def CM (l : List Rf) (s : ByteArray) : Int := if CD l s = -1 then 0 else (rf l (CD l s).toNat).id
def Kc (l : List Rf) : Prop := l.Pairwise fun a b => Av a.name b.name = true
theorem Jd {l : List Rf} : Kc l ↔ ∀ i j, i < j → j < l.length → Av (rf l i).name (rf l j).name = true := by
 unfold Kc
 rw [List.pairwise_iff_getElem]
 constructor
 ·intro h i j hij hj
  have := h i j (by omega) hj hij
  rwa [DG hj, DG (by omega)]
 ·intro h i j hi hj hij
  have := h i j hij hj
  rwa [DG hj, DG hi] at this
theorem Fk.asc {l : List Rf} {objs : List Obj} (h : Fk l objs) : Kc l := Jd.2 h.up
theorem Fa {a b : ByteArray} (h : Av a b = true) : Av b a = false := by
 cases e : Av b a
 ·rfl
 ·have := Dw h e; rw [BN] at this; cases this
theorem Gx {a b : ByteArray} (h : Av a b = true) : a ≠ b := by rintro rfl; rw [BN] at h; cases h
theorem Fu {a b : ByteArray} (h1 : Av a b = false) (h2 : Av b a = false) : a = b := by
 have := XD a b
 rw [show Op.bytesLess a.toList b.toList = Av a b from rfl, h1, h2, BB] at this
 simpa using this
def Ba (l : List Rf) (s : ByteArray) : List Rf := l.filter fun r => !(r.name.toList == s.toList)
theorem IL {l : List Rf} {s : ByteArray} {x : Rf} : x ∈ Ba l s ↔ x ∈ l ∧ x.name ≠ s := by
 unfold Ba
 rw [List.mem_filter, BB]
 simp
theorem Dg (a b : List Rf) (s : ByteArray) : Ba (a ++ b) s = Ba a s ++ Ba b s := by unfold Ba; rw [List.filter_append]
theorem Gp {r : Rf} {s : ByteArray} : Ba [r] s = if r.name.toList == s.toList then [] else [r] := by
 unfold Ba; cases h : (r.name.toList == s.toList) <;> simp [h]
def CX (r : Rf) : List Rf → List Rf
 | [] => [r]
 | x :: l => if Av x.name r.name then x :: CX r l else r :: x :: l
def CP (l : List Rf) (s : ByteArray) (id : Int) : List Rf := if id = 0 then Ba l s else CX ⟨s, id⟩ (Ba l s)
theorem SS {r x : Rf} {l : List Rf} : x ∈ CX r l ↔ x = r ∨ x ∈ l := by
 induction l with
 | nil => simp [CX]
 | cons y l ih =>
  unfold CX
  split
  ·rw [List.mem_cons, ih, List.mem_cons]; constructor
   ·rintro (h | h | h)
    ·exact .inr (.inl h)
    ·exact .inl h
    ·exact .inr (.inr h)
   ·rintro (h | h | h)
    ·exact .inr (.inl h)
    ·exact .inl h
    ·exact .inr (.inr h)
  ·simp
theorem St (r : Rf) (l : List Rf) : (CX r l).length = l.length + 1 := by
 induction l with
 | nil => rfl
 | cons y l ih => unfold CX; split <;> simp [ih]
theorem Rg (l : List Rf) (s : ByteArray) (id : Int) : (CP l s id).length ≤ l.length + 1 := by
 unfold CP
 have h : (Ba l s).length ≤ l.length := List.length_filter_le _ _
 split
 ·omega
 ·rw [St]; omega
theorem GN {l : List Rf} {s : ByteArray} {id : Int} {x : Rf} : x ∈ CP l s id ↔ (x ∈ l ∧ x.name ≠ s) ∨ (id ≠ 0 ∧ x = ⟨s, id⟩) := by
 unfold CP
 split
 ·rename_i h; rw [IL]; simp [h]
 ·rename_i h; rw [SS, IL]
  constructor
  ·rintro (h1 | h1)
   ·exact .inr ⟨h, h1⟩
   ·exact .inl h1
  ·rintro (h1 | h1)
   ·exact .inr h1
   ·exact .inl h1.2
theorem JQ {l : List Rf} (h : Kc l) (s : ByteArray) : Kc (Ba l s) := List.Pairwise.filter _ h
theorem WG {l : List Rf} {r : Rf} (h : Kc l) (hr : ∀ x ∈ l, x.name ≠ r.name) : Kc (CX r l) := by
 induction l with
 | nil => exact List.pairwise_singleton _ _
 | cons y l ih =>
  unfold CX
  have h' := List.pairwise_cons.1 h
  cases e : Av y.name r.name
  ·rw [if_neg (by simp)]
   refine List.pairwise_cons.2 ⟨fun x hx => ?_, h⟩
   have hy : Av r.name y.name = true := by
    cases e2 : Av r.name y.name
    ·exact absurd (Fu e e2) (hr y List.mem_cons_self)
    ·rfl
   rcases List.mem_cons.1 hx with rfl | hx
   ·exact hy
   ·exact Dw hy (h'.1 x hx)
  ·rw [if_pos rfl]
   refine List.pairwise_cons.2 ⟨fun x hx => ?_, ih h'.2 fun x hx => hr x (List.mem_cons_of_mem _ hx)⟩
   rcases SS.1 hx with rfl | hx
   ·exact e
   ·exact h'.1 x hx
theorem LQ {l : List Rf} (h : Kc l) (s : ByteArray) (id : Int) : Kc (CP l s id) := by
 unfold CP
 split
 ·exact JQ h s
 ·exact WG (JQ h s) fun x hx => (IL.1 hx).2
theorem Pu : ∀ {a b : List Rf}, Kc a → Kc b → (∀ x, x ∈ a ↔ x ∈ b) → a = b
 | [], [], _, _, _ => rfl
 | [], y :: b, _, _, h => absurd ((h y).2 List.mem_cons_self) (by simp)
 | x :: a, [], _, _, h => absurd ((h x).1 List.mem_cons_self) (by simp)
 | x :: a, y :: b, ha, hb, h => by
  have ha' := List.pairwise_cons.1 ha
  have hb' := List.pairwise_cons.1 hb
  have e : x = y := by
   have h1 := (h x).1 List.mem_cons_self
   have h2 := (h y).2 List.mem_cons_self
   rcases List.mem_cons.1 h1 with e | h1
   ·exact e
   ·rcases List.mem_cons.1 h2 with e | h2
    ·exact e.symm
    ·have := Dw (ha'.1 y h2) (hb'.1 x h1)
     rw [BN] at this; cases this
  subst e
  have : a = b := Pu ha'.2 hb'.2 fun z => by
   constructor
   ·intro hz
    rcases List.mem_cons.1 ((h z).1 (List.mem_cons_of_mem _ hz)) with e | h1
    ·exact absurd (congrArg Rf.name e).symm (Gx (ha'.1 z hz))
    ·exact h1
   ·intro hz
    rcases List.mem_cons.1 ((h z).2 (List.mem_cons_of_mem _ hz)) with e | h1
    ·exact absurd (congrArg Rf.name e).symm (Gx (hb'.1 z hz))
    ·exact h1
  rw [this]
theorem QU {l : List Rf} (h : Kc l) {x y : Rf} (hx : x ∈ l) (hy : y ∈ l) (e : x.name = y.name) : x = y := by
 obtain ⟨i, hi, rfl⟩ := KI hx
 obtain ⟨j, hj, rfl⟩ := KI hy
 rcases Nat.lt_trichotomy i j with h1 | rfl | h1
 ·exact absurd e (Gx (Jd.1 h i j h1 hj))
 ·rfl
 ·exact absurd e.symm (Gx (Jd.1 h j i h1 hi))
theorem DQ {l : List Rf} {s : ByteArray} : CD l s = -1 ↔ ∀ x ∈ l, x.name ≠ s := by
 unfold CD
 cases h : l.findIdx? (fun r => r.name.toList == s.toList) with
 | none =>
  rw [List.findIdx?_eq_none_iff] at h
  simp only [true_iff]
  intro x hx e
  have := h x hx
  rw [e] at this; simp at this
 | some i =>
  rw [List.findIdx?_eq_some_iff_getElem] at h
  obtain ⟨hi, he, _⟩ := h
  constructor
  ·intro e; simp only at e; omega
  ·intro hx
   exact absurd (by rw [BB] at he; simpa using he) (hx _ (List.getElem_mem hi))
theorem Gw {l : List Rf} {s : ByteArray} (h : CD l s ≠ -1) : ∃ i, i < l.length ∧ CD l s = (i : Int) ∧ (rf l i).name = s := by
 rcases Px l s with h1 | ⟨i, hi, h1, h2⟩
 ·exact absurd h1 h
 ·exact ⟨i, hi, h1, h2⟩
theorem Mu {l : List Rf} (h : Kc l) {x : Rf} (hx : x ∈ l) : CM l x.name = x.id := by
 unfold CM
 by_cases e : CD l x.name = -1
 ·exact absurd rfl (DQ.1 e x hx)
 ·rw [if_neg e]
  obtain ⟨i, hi, h1, h2⟩ := Gw e
  rw [h1]
  have := QU h (Pf hi) hx h2
  simp only [Int.toNat_natCast, this]
theorem KY {l : List Rf} {s : ByteArray} (h : ∀ x ∈ l, x.name ≠ s) : CM l s = 0 := by unfold CM; rw [if_pos (DQ.2 h)]
theorem EM {l : List Rf} (h : Kc l) (s : ByteArray) : (CM l s = 0 ∧ ∀ x ∈ l, x.name ≠ s) ∨ ∃ x ∈ l, x.name = s ∧ CM l s = x.id := by
 by_cases e : CD l s = -1
 ·exact .inl ⟨KY (DQ.1 e), DQ.1 e⟩
 ·obtain ⟨i, hi, h1, h2⟩ := Gw e
  refine .inr ⟨rf l i, Pf hi, h2, ?_⟩
  unfold CM; rw [if_neg e, h1]; rfl
def Gf (l : List Rf) (s : ByteArray) (id : Int) : Nat → Bool
 | 0 => id == 0
 | k + 1 => Gf l s id k || Av s (rf l k).name
def Im (l : List Rf) (s : ByteArray) (id : Int) : Nat → List Rf
 | 0 => []
 | k + 1 => Im l s id k ++ (if !Gf l s id k && Av s (rf l k).name then [⟨s, id⟩] else []) ++ (if (rf l k).name.toList == s.toList then [] else [rf l k])
theorem SO {r : Rf} {a b : List Rf} (h : ∀ x ∈ a, Av x.name r.name = true) : CX r (a ++ b) = a ++ CX r b := by
 induction a with
 | nil => rfl
 | cons x a ih =>
  rw [List.cons_append, CX, if_pos (h x List.mem_cons_self), ih fun y hy => h y (List.mem_cons_of_mem _ hy)]
  rfl
theorem Vc {r : Rf} {a b : List Rf} (h : ∃ x ∈ a, Av x.name r.name = false) : CX r (a ++ b) = CX r a ++ b := by
 induction a with
 | nil => obtain ⟨x, hx, _⟩ := h; cases hx
 | cons x a ih =>
  rw [List.cons_append, CX, CX]
  cases e : Av x.name r.name
  ·simp
  ·obtain ⟨y, hy, h2⟩ := h
   rcases List.mem_cons.1 hy with rfl | hy
   ·rw [e] at h2; cases h2
   ·simp only [if_true, List.cons_append]; rw [ih ⟨y, hy, h2⟩]
theorem Kg {l : List Rf} {n : Nat} (h : n < l.length) : l.take (n + 1) = l.take n ++ [rf l n] := by
 rw [List.take_succ_eq_append_getElem h, DG h]
theorem TM (l : List Rf) (s : ByteArray) (id : Int) : ∀ k, k ≤ l.length →
  (id = 0 → Gf l s id k = true ∧ Im l s id k = Ba (l.take k) s) ∧
  (id ≠ 0 → (Gf l s id k = false ∧ Im l s id k = Ba (l.take k) s ∧ ∀ x ∈ l.take k, Av s x.name = false) ∨
   (Gf l s id k = true ∧ Im l s id k = CX ⟨s, id⟩ (Ba (l.take k) s) ∧ ∃ y ∈ Ba (l.take k) s, Av y.name s = false)) := by
 intro k
 induction k with
 | zero =>
  intro _
  refine ⟨fun h => ⟨by simp [Gf, h], rfl⟩, fun h => .inl ⟨by simp [Gf, h], rfl, fun x hx => by simp at hx⟩⟩
 | succ k ih =>
  intro hk
  obtain ⟨ih1, ih2⟩ := ih (by omega)
  have hts := Kg (l := l) (n := k) (by omega)
  refine ⟨fun h => ?_, fun h => ?_⟩
  ·obtain ⟨h1, h2⟩ := ih1 h
   refine ⟨by simp [Gf, h1], ?_⟩
   rw [hts, Dg, Gp, Im, h1, h2]; simp
  ·rcases ih2 h with ⟨h1, h2, h3⟩ | ⟨h1, h2, h3⟩
   ·cases e : Av s (rf l k).name
    ·refine .inl ⟨by simp [Gf, h1, e], ?_, fun x hx => ?_⟩
     ·rw [hts, Dg, Gp, Im, h1, h2, e]; simp
     ·rw [hts] at hx
      rcases List.mem_append.1 hx with hx | hx
      ·exact h3 x hx
      ·rw [List.mem_singleton.1 hx]; exact e
    ·have hne : ((rf l k).name.toList == s.toList) = false := by
      rw [BB, decide_eq_false_iff_not]; intro e2; rw [e2, BN] at e; cases e
     refine .inr ⟨by simp [Gf, e], ?_, rf l k, ?_, Fa e⟩
     ·rw [hts, Dg, Gp, Im, h1, h2, e, hne, SO]
      ·simp [CX, Fa e]
      ·intro x hx
       obtain ⟨hx, hxn⟩ := IL.1 hx
       cases e3 : Av x.name s
       ·exact absurd (Fu e3 (h3 x hx)) hxn
       ·rfl
     ·rw [hts, Dg, Gp, hne]; simp
   ·refine .inr ⟨by simp [Gf, h1], ?_, ?_⟩
    ·rw [hts, Dg, Gp, Vc h3, Im, h1, h2]; simp
    ·obtain ⟨y, hy, h4⟩ := h3
     exact ⟨y, by rw [hts, Dg]; exact List.mem_append_left _ hy, h4⟩
theorem Us (l : List Rf) (s : ByteArray) (id : Int) : Im l s id l.length ++ (if Gf l s id l.length then [] else [⟨s, id⟩]) = CP l s id := by
 obtain ⟨h1, h2⟩ := TM l s id l.length (Nat.le_refl _)
 rw [List.take_length] at h1 h2
 unfold CP
 by_cases h : id = 0
 ·obtain ⟨a, b⟩ := h1 h; rw [if_pos h, a, b]; simp
 ·rw [if_neg h]
  rcases h2 h with ⟨a, b, c⟩ | ⟨a, b, c⟩
  ·rw [a, b]
   have := SO (r := ⟨s, id⟩) (a := Ba l s) (b := []) (fun x hx => by
    obtain ⟨hx, hxn⟩ := IL.1 hx
    cases e3 : Av x.name s
    ·exact absurd (Fu e3 (c x hx)) hxn
    ·rfl)
   rw [List.append_nil] at this
   rw [this]; simp [CX]
  ·rw [a, b]; simp
def Xd (l : List Rf) (s : ByteArray) : Nat := (l.takeWhile fun x => Av x.name s).length
def KK (l : List Rf) (i : Nat) (r : Rf) : List Rf := l.take i ++ [r] ++ l.drop i
theorem Yb (l : List Rf) (s : ByteArray) : Xd l s ≤ l.length := (List.takeWhile_prefix _).length_le
theorem WN (l : List Rf) (r : Rf) : KK l (Xd l r.name) r = CX r l := by
 unfold KK Xd
 induction l with
 | nil => rfl
 | cons x l ih =>
  rw [CX, List.takeWhile_cons]
  cases e : Av x.name r.name
  ·simp
  ·simp only [if_true, List.length_cons, List.take_succ_cons, List.drop_succ_cons]
   simp only [List.cons_append, List.cons.injEq, true_and]
   simpa using ih
theorem Ps {l : List Rf} (h : Kc l) {i : Nat} (hi : i < l.length) {s : ByteArray} (e : (rf l i).name = s) : without l i = Ba l s := by
 have h1 : Ba (l.take i) s = l.take i := by
  unfold Ba
  rw [List.filter_eq_self]
  intro x hx
  rw [BB]
  obtain ⟨j, hj, rfl⟩ := List.getElem_of_mem hx
  have hj' : j < i := by simp at hj; omega
  have := Gx (Jd.1 h j i hj' hi)
  rw [e, DG (show j < l.length by omega)] at this
  simp only [List.getElem_take]
  simpa using this
 have h2 : Ba (l.drop (i + 1)) s = l.drop (i + 1) := by
  unfold Ba
  rw [List.filter_eq_self]
  intro x hx
  rw [BB]
  obtain ⟨j, hj, rfl⟩ := List.getElem_of_mem hx
  have hj' : i + 1 + j < l.length := by simp at hj; omega
  have := Gx (Jd.1 h i (i + 1 + j) (by omega) hj')
  rw [e, DG hj'] at this
  simp only [List.getElem_drop]
  simpa using fun e => this e.symm
 have h3 : l = l.take i ++ [rf l i] ++ l.drop (i + 1) := by
  rw [← Kg hi, List.take_append_drop]
 unfold without
 conv => rhs; rw [h3]
 rw [Dg, Dg, h1, h2, Gp, e]
 simp
theorem Uh {l : List Rf} {s : ByteArray} (h : CD l s = -1) : Ba l s = l := by
 unfold Ba
 rw [List.filter_eq_self]
 intro x hx
 rw [BB]
 simpa using DQ.1 h x hx
def Cr (l : List Rf) (objs : List Obj) (u : Mv) (force : Bool) : Int :=
 if CM l u.name ≠ u.old then 4
 else if u.new = 0 then 0
 else if AH objs u.new ≠ 0 then AH objs u.new
 else if u.old ≠ 0 ∧ force = false ∧ Dj objs u.old u.new = false then 4 else 0
def AK (l : List Rf) (us : List Mv) : Nat → List Rf
 | 0 => l
 | k + 1 => CP (AK l us k) (mv us k).name (mv us k).new
def Bz (l : List Rf) (objs : List Obj) (us : List Mv) (force : Bool) (k : Nat) : Int := Cr (AK l us k) objs (mv us k) force
def Cb (l : List Rf) (objs : List Obj) (us : List Mv) (force : Bool) : Int :=
 if Ao (Bz l objs us force) us.length = 0 then AD (AK l us us.length) objs else Ao (Bz l objs us force) us.length
def ED (l : List Rf) (objs : List Obj) (us : List Mv) (force : Bool) : List Rf := if Cb l objs us force = 0 then AK l us us.length else []
def CL (l : List Rf) (objs : List Obj) (us : List Mv) (force : Bool) : Int :=
 if Au l objs ≠ 0 then Au l objs else if AO us ≠ 0 then AO us else Cb l objs us force
def Eh (l : List Rf) (objs : List Obj) (us : List Mv) (force : Bool) : List Rf := if CL l objs us force = 0 then AK l us us.length else []
theorem EN {l : List Rf} (h : Kc l) (us : List Mv) : ∀ k, Kc (AK l us k)
 | 0 => h
 | k + 1 => LQ (EN h us k) _ _
theorem EZ (l : List Rf) (us : List Mv) : ∀ k, (AK l us k).length ≤ l.length + k
 | 0 => Nat.le_refl _
 | k + 1 => by have := Rg (AK l us k) (mv us k).name (mv us k).new; have := EZ l us k; show (CP _ _ _).length ≤ _; omega
theorem GI {l : List Rf} {objs : List Obj} {u : Mv} {force : Bool} : Cr l objs u force = 0 ↔
  CM l u.name = u.old ∧ (u.new ≠ 0 → Az objs u.new = 3 ∧ (u.old ≠ 0 → force = false → Dj objs u.old u.new = true)) := by
 unfold Cr
 by_cases h1 : CM l u.name = u.old
 ·rw [if_neg (by simp [h1])]
  by_cases h2 : u.new = 0
  ·rw [if_pos h2]; simp [h1, h2]
  ·rw [if_neg h2]
   by_cases h3 : AH objs u.new = 0
   ·rw [if_neg (by simp [h3])]
    have h3' := DF.1 h3
    by_cases h4 : u.old ≠ 0 ∧ force = false ∧ Dj objs u.old u.new = false
    ·rw [if_pos h4]
     constructor
     ·intro e; cases e
     ·rintro ⟨_, h⟩
      have := (h h2).2 h4.1 h4.2.1
      rw [h4.2.2] at this; cases this
    ·rw [if_neg h4]
     simp only [true_iff]
     refine ⟨h1, fun _ => ⟨h3', fun h5 h6 => ?_⟩⟩
     cases h7 : Dj objs u.old u.new
     ·exact absurd ⟨h5, h6, h7⟩ h4
     ·rfl
   ·rw [if_pos h3]
    constructor
    ·intro e; exact absurd e h3
    ·rintro ⟨_, h⟩; exact absurd (DF.2 (h h2).1) h3
 ·rw [if_pos h1]
  constructor
  ·intro e; cases e
  ·rintro ⟨e, _⟩; exact absurd e h1
theorem FL {l : List Rf} {objs : List Obj} {us : List Mv} {force : Bool} (h : ∀ r ∈ l, Az objs r.id = 3) : ∀ k, Ao (Bz l objs us force) k = 0 → ∀ r ∈ AK l us k, Az objs r.id = 3
 | 0, _, r, hr => h r hr
 | k + 1, hs, r, hr => by
  have h1 := Be hs
  rcases GN.1 hr with ⟨hr, _⟩ | ⟨hn, rfl⟩
  ·exact FL h k (AW fun i hi => h1 i (by omega)) r hr
  ·exact ((GI.1 (h1 k (by omega))).2 hn).1
end Go.Proofs.YtjdgpgfiomnjkaaGreatDoor
