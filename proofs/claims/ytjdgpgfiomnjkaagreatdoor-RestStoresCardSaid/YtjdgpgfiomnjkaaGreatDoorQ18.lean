
/- DiffP: the plain law of what another one has not, objects and names. No program here. -/
import Derived.Test.YtjdgpgfiomnjkaaGreatDoorQ12
import Derived.Test.YtjdgpgfiomnjkaaGreatDoorQ7
import Derived.Test.YtjdgpgfiomnjkaaGreatDoorQ16
import Derived.Test.YtjdgpgfiomnjkaaGreatDoorQ10
import Derived.Test.YtjdgpgfiomnjkaaGreatDoorQ8
import Derived.Deep.AppendLies
namespace Go.Proofs.YtjdgpgfiomnjkaaGreatDoor
set_option linter.unusedVariables false
set_option linter.unusedSimpArgs false
set_option linter.unusedSectionVars false
variable [Ghost]
def lacks (m : List Obj) (o : Obj) : Bool := !isAt m o.id
def missL (l m : List Obj) : List Obj := l.filter (lacks m)
def missTo (l m : List Obj) (k : Nat) : List Obj := (l.take k).filter (lacks m)
def missErr (l m : List Obj) (k : Nat) : Int := if isAt m (obj l k).id = true ∧ sameObj (obj l k) (obj m (lo m (obj l k).id)) = false then 6 else 0
def rawE (l m : List Obj) : Int := scan (missErr l m) l.length
def rawL (l m : List Obj) : List Obj := if rawE l m = 0 then missL l m else []
def diffE (l m : List Obj) : Int := if checkStore l ≠ 0 then checkStore l else if checkStore m ≠ 0 then checkStore m else rawE l m
def diffL (l m : List Obj) : List Obj := if diffE l m = 0 then missL l m else []
theorem missTo_zero (l m : List Obj) : missTo l m 0 = [] := rfl
theorem missTo_there {l m : List Obj} {k : Nat} (hk : k < l.length) (h : isAt m (obj l k).id = true) : missTo l m (k + 1) = missTo l m k := by
 unfold missTo lacks
 rw [take_snoc_obj hk, List.filter_append]
 simp [h]
theorem missTo_not {l m : List Obj} {k : Nat} (hk : k < l.length) (h : isAt m (obj l k).id = false) : missTo l m (k + 1) = missTo l m k ++ [obj l k] := by
 unfold missTo lacks
 rw [take_snoc_obj hk, List.filter_append]
 simp [h]
theorem missTo_end (l m : List Obj) : missTo l m l.length = missL l m := by unfold missTo missL; rw [List.take_length]
theorem missTo_length (l m : List Obj) (k : Nat) : (missTo l m k).length ≤ k := by
 unfold missTo
 have h1 := List.length_filter_le (lacks m) (l.take k)
 rw [List.length_take] at h1; omega
theorem missL_length (l m : List Obj) : (missL l m).length ≤ l.length := List.length_filter_le _ _
def namesE (l : List Rf) : Int := scan (fun k => nameErr (rf l k).name) l.length
def stepB (l : List Rf) (i : Nat) : Bool := strLt (rf l (i - 1)).name (rf l i).name
def risesB (l : List Rf) : Bool := decide (∀ i, i < l.length → 0 < i → stepB l i = true)
def listsE (l m : List Rf) : Int := if 8 < l.length ∨ 8 < m.length then 2 else if namesE l ≠ 0 then namesE l else if namesE m ≠ 0 then namesE m else if risesB l = true ∧ risesB m = true then 0 else 4
theorem rises_not {l : List Rf} {i : Nat} (hi : i < l.length) (h0 : 0 < i) (h : stepB l i = false) : risesB l = false := by
 unfold risesB
 refine decide_eq_false fun hh => ?_
 rw [hh i hi h0] at h; cases h
theorem rises_all {l : List Rf} (h : ∀ i, i < l.length → 0 < i → stepB l i = true) : risesB l = true := decide_eq_true h
theorem rises_asc {l : List Rf} (h : risesB l = true) : Asc l := by
 have h1 := of_decide_eq_true h
 refine asc_iff.2 fun i j hij hj => ?_
 induction j with
 | zero => omega
 | succ j ih =>
  have h2 := h1 (j + 1) hj (by omega)
  rcases Nat.lt_or_ge i j with h3 | h3
  ·exact strLt_trans (ih h3 (by omega)) h2
  ·have : i = j := by omega
   subst this; exact h2
def leadN : Nat → List Rf → List Rf → List Mv
 | 0, _, _ => []
 | n + 1, [], [] => []
 | n + 1, r :: l, [] => ⟨r.name, 0, r.id⟩ :: leadN n l []
 | n + 1, [], t :: m => ⟨t.name, t.id, 0⟩ :: leadN n [] m
 | n + 1, r :: l, t :: m =>
  if strLt r.name t.name then ⟨r.name, 0, r.id⟩ :: leadN n l (t :: m) else if strLt t.name r.name then ⟨t.name, t.id, 0⟩ :: leadN n (r :: l) m
  else if r.id = t.id then leadN n l m else ⟨t.name, t.id, r.id⟩ :: leadN n l m
def leadL (l m : List Rf) : List Mv := leadN (l.length + m.length) l m
def refsL (l m : List Rf) : List Mv := if listsE l m = 0 then leadL l m else []
def look : List Rf → ByteArray → Option Int
 | [], _ => none
 | r :: l, s => if r.name = s then some r.id else look l s
theorem look_none {l : List Rf} {s : ByteArray} (h : ∀ x ∈ l, x.name ≠ s) : look l s = none := by
 induction l with
 | nil => rfl
 | cons r l ih => rw [look, if_neg (h r List.mem_cons_self), ih fun x hx => h x (List.mem_cons_of_mem _ hx)]
theorem look_some {l : List Rf} {s : ByteArray} {i : Int} (h : look l s = some i) : ⟨s, i⟩ ∈ l := by
 induction l with
 | nil => cases h
 | cons r l ih =>
  rw [look] at h
  by_cases e : r.name = s
  ·rw [if_pos e] at h; cases h; subst e; exact List.mem_cons_self
  ·rw [if_neg e] at h; exact List.mem_cons_of_mem _ (ih h)
theorem look_mem {l : List Rf} (hl : Asc l) {x : Rf} (hx : x ∈ l) : look l x.name = some x.id := by
 cases h : look l x.name with
 | none =>
  induction l with
  | nil => cases hx
  | cons r l ih =>
   rw [look] at h
   by_cases e : r.name = x.name
   ·rw [if_pos e] at h; cases h
   ·rw [if_neg e] at h
    rcases List.mem_cons.1 hx with e2 | h2
    ·subst e2; exact absurd rfl e
    ·exact ih (List.pairwise_cons.1 hl).2 h2 h
 | some i =>
  have := asc_once hl (look_some h) hx rfl
  rw [← this]
def Moved (l m : List Rf) (u : Mv) : Prop := look l u.name ≠ look m u.name ∧ u.new = (look l u.name).getD 0 ∧ u.old = (look m u.name).getD 0
theorem asc_above {r : Rf} {l : List Rf} (h : Asc (r :: l)) {s : ByteArray} (hs : s = r.name ∨ strLt s r.name = true) : ∀ x ∈ l, x.name ≠ s := fun x hx e => by
 have h1 := (List.pairwise_cons.1 h).1 x hx
 rcases hs with rfl | hs
 ·exact strLt_ne h1 e.symm
 ·exact strLt_ne (strLt_trans hs h1) e.symm
theorem look_above {r : Rf} {l : List Rf} (h : Asc (r :: l)) : look l r.name = none := look_none (asc_above h (.inl rfl))
theorem look_below {r : Rf} {l : List Rf} (h : Asc (r :: l)) {s : ByteArray} (hs : strLt s r.name = true) : look (r :: l) s = none :=
 look_none fun x hx e => by
  rcases List.mem_cons.1 hx with e2 | h2
  ·subst e2; exact strLt_ne hs e.symm
  ·exact asc_above h (.inr hs) x h2 e
theorem mv_ext {u v : Mv} (h1 : u.name = v.name) (h2 : u.old = v.old) (h3 : u.new = v.new) : u = v := by cases u; cases v; cases h1; cases h2; cases h3; rfl
theorem look_cons {r : Rf} {l : List Rf} {s : ByteArray} (h : s ≠ r.name) : look (r :: l) s = look l s := by rw [look, if_neg fun e => h e.symm]
theorem look_head {r : Rf} {l : List Rf} : look (r :: l) r.name = some r.id := by rw [look, if_pos rfl]
theorem mem_lead : ∀ (n : Nat) (l m : List Rf), l.length + m.length ≤ n → Asc l → Asc m → ∀ u, u ∈ leadN n l m ↔ Moved l m u
 | 0, [], [], _, _, _, u => by simp [leadN, Moved, look]
 | 0, r :: l, m, h, _, _, u => by simp at h
 | 0, [], t :: m, h, _, _, u => by simp at h
 | n + 1, [], [], _, _, _, u => by simp [leadN, Moved, look]
 | n + 1, r :: l, [], h, hl, hm, u => by
  have ih := mem_lead n l [] (by simp at h ⊢; omega) (List.pairwise_cons.1 hl).2 hm u
  rw [leadN, List.mem_cons, ih]
  by_cases e : u.name = r.name
  ·unfold Moved
   rw [e, look_head, look_above hl]
   constructor
   ·rintro (h1 | h1)
    ·subst h1; exact ⟨by simp [look], rfl, rfl⟩
    ·exact absurd rfl h1.1
   ·rintro ⟨_, h2, h3⟩
    exact .inl (mv_ext e h3 h2)
  ·unfold Moved
   rw [look_cons e]
   exact ⟨fun h1 => h1.elim (fun h2 => absurd (by rw [h2]) e) id, .inr⟩
 | n + 1, [], t :: m, h, hl, hm, u => by
  have ih := mem_lead n [] m (by simp at h ⊢; omega) hl (List.pairwise_cons.1 hm).2 u
  rw [leadN, List.mem_cons, ih]
  by_cases e : u.name = t.name
  ·unfold Moved
   rw [e, look_head, look_above hm]
   constructor
   ·rintro (h1 | h1)
    ·subst h1; exact ⟨by simp [look], rfl, rfl⟩
    ·exact absurd rfl h1.1
   ·rintro ⟨_, h2, h3⟩
    exact .inl (mv_ext e h3 h2)
  ·unfold Moved
   rw [look_cons e]
   exact ⟨fun h1 => h1.elim (fun h2 => absurd (by rw [h2]) e) id, .inr⟩
 | n + 1, r :: l, t :: m, h, hl, hm, u => by
  have hl' := (List.pairwise_cons.1 hl).2
  have hm' := (List.pairwise_cons.1 hm).2
  rw [leadN]
  by_cases h1 : strLt r.name t.name = true
  ·have ih := mem_lead n l (t :: m) (by simp at h ⊢; omega) hl' hm u
   rw [if_pos h1, List.mem_cons, ih]
   by_cases e : u.name = r.name
   ·unfold Moved
    rw [e, look_head, look_above hl, look_below hm h1]
    constructor
    ·rintro (h2 | h2)
     ·subst h2; exact ⟨by simp, rfl, rfl⟩
     ·exact absurd rfl h2.1
    ·rintro ⟨_, h2, h3⟩
     exact .inl (mv_ext e h3 h2)
   ·unfold Moved
    rw [look_cons (r := r) e]
    exact ⟨fun h1 => h1.elim (fun h2 => absurd (by rw [h2]) e) id, .inr⟩
  ·rw [if_neg h1]
   by_cases h2 : strLt t.name r.name = true
   ·have ih := mem_lead n (r :: l) m (by simp at h ⊢; omega) hl hm' u
    rw [if_pos h2, List.mem_cons, ih]
    by_cases e : u.name = t.name
    ·unfold Moved
     rw [e, look_head, look_above hm, look_below hl h2]
     constructor
     ·rintro (h3 | h3)
      ·subst h3; exact ⟨by simp, rfl, rfl⟩
      ·exact absurd rfl h3.1
     ·rintro ⟨_, h2, h3⟩
      exact .inl (mv_ext e h3 h2)
    ·unfold Moved
     rw [look_cons (r := t) e]
     exact ⟨fun h1 => h1.elim (fun h2 => absurd (by rw [h2]) e) id, .inr⟩
   ·rw [if_neg h2]
    have hn : r.name = t.name := strLt_tri (by simpa using h1) (by simpa using h2)
    have ih := mem_lead n l m (by simp at h ⊢; omega) hl' hm' u
    have aL := look_above hl
    have aM := look_above hm
    rw [← hn] at aM
    by_cases hi : r.id = t.id
    ·rw [if_pos hi, ih]
     unfold Moved
     by_cases e : u.name = r.name
     ·rw [e, look_head, aL, aM, hn, look_head, hi]
      exact ⟨fun h3 => absurd rfl h3.1, fun h3 => absurd rfl h3.1⟩
     ·rw [look_cons e, look_cons (fun h3 => e (h3.trans hn.symm))]
    ·rw [if_neg hi, List.mem_cons, ih]
     unfold Moved
     by_cases e : u.name = r.name
     ·rw [e, look_head, aL, aM, show look (t :: m) r.name = some t.id by rw [hn, look_head]]
      constructor
      ·rintro (h3 | h3)
       ·subst h3; exact ⟨by simpa using hi, rfl, rfl⟩
       ·exact absurd rfl h3.1
      ·rintro ⟨_, h2, h3⟩
       exact .inl (mv_ext (e.trans hn) h3 h2)
     ·rw [look_cons e, look_cons (fun h3 => e (h3.trans hn.symm))]
      exact ⟨fun h3 => h3.elim (fun h4 => absurd (by rw [h4, hn]) e) id, .inr⟩
def MvAsc (l : List Mv) : Prop := l.Pairwise fun a b => strLt a.name b.name = true
theorem mvAsc_ext : ∀ {a b : List Mv}, MvAsc a → MvAsc b → (∀ x, x ∈ a ↔ x ∈ b) → a = b
 | [], [], _, _, _ => rfl
 | [], y :: b, _, _, h => absurd ((h y).2 List.mem_cons_self) (by simp)
 | x :: a, [], _, _, h => absurd ((h x).1 List.mem_cons_self) (by simp)
 | x :: a, y :: b, ha, hb, h => by
  obtain ⟨ha1, ha2⟩ := List.pairwise_cons.1 ha
  obtain ⟨hb1, hb2⟩ := List.pairwise_cons.1 hb
  have e : x = y := by
   rcases List.mem_cons.1 ((h x).1 List.mem_cons_self) with e | h1
   ·exact e
   ·rcases List.mem_cons.1 ((h y).2 List.mem_cons_self) with e | h2
    ·exact e.symm
    ·have h3 := hb1 _ h1; rw [strLt_asymm (ha1 _ h2)] at h3; cases h3
  subst e
  rw [mvAsc_ext ha2 hb2 fun z => ⟨fun hz => ?_, fun hz => ?_⟩]
  ·rcases List.mem_cons.1 ((h z).1 (List.mem_cons_of_mem _ hz)) with e | h1
   ·subst e; have := ha1 _ hz; rw [strLt_irrefl] at this; cases this
   ·exact h1
  ·rcases List.mem_cons.1 ((h z).2 (List.mem_cons_of_mem _ hz)) with e | h1
   ·subst e; have := hb1 _ hz; rw [strLt_irrefl] at this; cases this
   ·exact h1
theorem lead_asc : ∀ (n : Nat) (l m : List Rf), l.length + m.length ≤ n → Asc l → Asc m → MvAsc (leadN n l m)
 | 0, _, _, _, _, _ => List.Pairwise.nil
 | n + 1, [], [], _, _, _ => List.Pairwise.nil
 | n + 1, r :: l, [], h, hl, hm => by
  have hn : l.length + ([] : List Rf).length ≤ n := by simp at h ⊢; omega
  have hl' := (List.pairwise_cons.1 hl).2
  refine List.pairwise_cons.2 ⟨fun u hu => ?_, lead_asc n l [] hn hl' hm⟩
  have hM := (mem_lead n l [] hn hl' hm u).1 hu
  cases e : look l u.name with
  | none => exact absurd (show look l u.name = look [] u.name from e) hM.1
  | some i => exact (List.pairwise_cons.1 hl).1 _ (look_some e)
 | n + 1, [], t :: m, h, hl, hm => by
  have hn : ([] : List Rf).length + m.length ≤ n := by simp at h ⊢; omega
  have hm' := (List.pairwise_cons.1 hm).2
  refine List.pairwise_cons.2 ⟨fun u hu => ?_, lead_asc n [] m hn hl hm'⟩
  have hM := (mem_lead n [] m hn hl hm' u).1 hu
  cases e : look m u.name with
  | none => exact absurd (show look [] u.name = look m u.name from e.symm) hM.1
  | some i => exact (List.pairwise_cons.1 hm).1 _ (look_some e)
 | n + 1, r :: l, t :: m, h, hl, hm => by
  have hl' := (List.pairwise_cons.1 hl).2
  have hm' := (List.pairwise_cons.1 hm).2
  have above : ∀ (s : ByteArray) (l m : List Rf) (u : Mv), Moved l m u → (∀ x ∈ l, strLt s x.name = true) → (∀ x ∈ m, strLt s x.name = true) → strLt s u.name = true := fun s l m u hM h1 h2 => by
   cases e : look l u.name with
   | some i => exact h1 _ (look_some e)
   | none =>
    cases e2 : look m u.name with
    | some i => exact h2 _ (look_some e2)
    | none => exact absurd (by rw [e, e2]) hM.1
  rw [leadN]
  by_cases h1 : strLt r.name t.name = true
  ·have hn : l.length + (t :: m).length ≤ n := by simp at h ⊢; omega
   rw [if_pos h1]
   refine List.pairwise_cons.2 ⟨fun u hu => above _ _ _ u ((mem_lead n _ _ hn hl' hm u).1 hu) (List.pairwise_cons.1 hl).1 fun x hx => ?_, lead_asc n _ _ hn hl' hm⟩
   rcases List.mem_cons.1 hx with e | h2
   ·subst e; exact h1
   ·exact strLt_trans h1 ((List.pairwise_cons.1 hm).1 x h2)
  ·rw [if_neg h1]
   by_cases h2 : strLt t.name r.name = true
   ·have hn : (r :: l).length + m.length ≤ n := by simp at h ⊢; omega
    rw [if_pos h2]
    refine List.pairwise_cons.2 ⟨fun u hu => above _ _ _ u ((mem_lead n _ _ hn hl hm' u).1 hu) (fun x hx => ?_) (List.pairwise_cons.1 hm).1, lead_asc n _ _ hn hl hm'⟩
    rcases List.mem_cons.1 hx with e | h3
    ·subst e; exact h2
    ·exact strLt_trans h2 ((List.pairwise_cons.1 hl).1 x h3)
   ·rw [if_neg h2]
    have e : r.name = t.name := strLt_tri (by simpa using h1) (by simpa using h2)
    have hn : l.length + m.length ≤ n := by simp at h ⊢; omega
    by_cases hi : r.id = t.id
    ·rw [if_pos hi]; exact lead_asc n l m hn hl' hm'
    ·rw [if_neg hi]
     refine List.pairwise_cons.2 ⟨fun u hu => above _ _ _ u ((mem_lead n _ _ hn hl' hm' u).1 hu) (fun x hx => ?_) (List.pairwise_cons.1 hm).1, lead_asc n _ _ hn hl' hm'⟩
     show strLt t.name x.name = true
     rw [← e]; exact (List.pairwise_cons.1 hl).1 x hx
def goneB (m : List Rf) (r : Rf) : Bool := decide (findRf m r.name = -1) || decide (idOf m r.name ≠ r.id)
def movesA (l m : List Rf) : Nat → List Mv
 | 0 => []
 | k + 1 => if goneB m (rf l k) = true then movesA l m k ++ [⟨(rf l k).name, idOf m (rf l k).name, (rf l k).id⟩] else movesA l m k
def movesB (l m : List Rf) (out : List Mv) : Nat → List Mv
 | 0 => out
 | k + 1 => if findRf l (rf m k).name = -1 then movesB l m out k ++ [⟨(rf m k).name, (rf m k).id, 0⟩] else movesB l m out k
def movesL (l m : List Rf) : List Mv := movesB l m (movesA l m l.length) m.length
theorem movesA_length (l m : List Rf) : ∀ k, (movesA l m k).length ≤ k
 | 0 => Nat.le_refl _
 | k + 1 => by
  have := movesA_length l m k
  unfold movesA; split
  ·simp; omega
  ·omega
theorem movesB_length (l m : List Rf) (out : List Mv) : ∀ k, (movesB l m out k).length ≤ out.length + k
 | 0 => Nat.le_refl _
 | k + 1 => by
  have := movesB_length l m out k
  unfold movesB; split
  ·simp; omega
  ·omega
theorem find_look {l : List Rf} (h : Asc l) (s : ByteArray) : (findRf l s = -1 ↔ look l s = none) ∧ idOf l s = (look l s).getD 0 := by
 rcases idOf_cases h s with ⟨h1, h2⟩ | ⟨x, hx, rfl, h2⟩
 ·rw [look_none h2, h1]; exact ⟨⟨fun _ => rfl, fun _ => find_none_iff.2 h2⟩, rfl⟩
 ·rw [look_mem h hx, h2]; exact ⟨⟨fun h3 => absurd rfl (find_none_iff.1 h3 x hx), fun h3 => by cases h3⟩, rfl⟩
theorem mem_movesA {l m : List Rf} {u : Mv} : ∀ {k : Nat}, u ∈ movesA l m k ↔ ∃ j, j < k ∧ goneB m (rf l j) = true ∧ u = ⟨(rf l j).name, idOf m (rf l j).name, (rf l j).id⟩
 | 0 => by simp [movesA]
 | k + 1 => by
  have ih := mem_movesA (l := l) (m := m) (u := u) (k := k)
  unfold movesA
  constructor
  ·split
   ·rename_i hg
    rw [List.mem_append, ih, List.mem_singleton]
    rintro (⟨j, hj, h⟩ | h)
    ·exact ⟨j, by omega, h⟩
    ·exact ⟨k, by omega, hg, h⟩
   ·rw [ih]; rintro ⟨j, hj, h⟩; exact ⟨j, by omega, h⟩
  ·rintro ⟨j, hj, hg, h⟩
   by_cases e : j = k
   ·subst e; rw [if_pos hg, List.mem_append, List.mem_singleton]; exact .inr h
   ·split
    ·rw [List.mem_append, ih]; exact .inl ⟨j, by omega, hg, h⟩
    ·exact ih.2 ⟨j, by omega, hg, h⟩
theorem mem_movesB {l m : List Rf} {out : List Mv} {u : Mv} : ∀ {k : Nat}, u ∈ movesB l m out k ↔ u ∈ out ∨ ∃ j, j < k ∧ findRf l (rf m j).name = -1 ∧ u = ⟨(rf m j).name, (rf m j).id, 0⟩
 | 0 => by simp [movesB]
 | k + 1 => by
  have ih := mem_movesB (l := l) (m := m) (out := out) (u := u) (k := k)
  unfold movesB
  constructor
  ·split
   ·rename_i hg
    rw [List.mem_append, ih, List.mem_singleton]
    rintro ((h | ⟨j, hj, h⟩) | h)
    ·exact .inl h
    ·exact .inr ⟨j, by omega, h⟩
    ·exact .inr ⟨k, by omega, hg, h⟩
   ·rw [ih]; rintro (h | ⟨j, hj, h⟩)
    ·exact .inl h
    ·exact .inr ⟨j, by omega, h⟩
  ·rintro (h | ⟨j, hj, hg, h⟩)
   ·split
    ·rw [List.mem_append, ih]; exact .inl (.inl h)
    ·exact ih.2 (.inl h)
   ·by_cases e : j = k
    ·subst e; rw [if_pos hg, List.mem_append, List.mem_singleton]; exact .inr h
    ·split
     ·rw [List.mem_append, ih]; exact .inl (.inr ⟨j, by omega, hg, h⟩)
     ·exact ih.2 (.inr ⟨j, by omega, hg, h⟩)
theorem mem_moves {l m : List Rf} (hl : Asc l) (hm : Asc m) {u : Mv} : u ∈ movesL l m ↔ Moved l m u := by
 unfold movesL
 rw [mem_movesB, mem_movesA]
 constructor
 ·rintro (⟨j, hj, hg, rfl⟩ | ⟨j, hj, hf, rfl⟩)
  ·have h1 := look_mem hl (rf_mem hj)
   have h2 := find_look hm (rf l j).name
   refine ⟨?_, by simp [h1], h2.2⟩
   show look l (rf l j).name ≠ look m (rf l j).name
   rw [h1]
   unfold goneB at hg
   intro e
   rw [← e] at h2
   rcases Bool.or_eq_true_iff.1 hg with h3 | h3
   ·have := h2.1.1 (of_decide_eq_true h3); cases this
   ·exact of_decide_eq_true h3 h2.2
  ·have h1 := look_mem hm (rf_mem hj)
   have h2 := (find_look hl (rf m j).name).1.1 hf
   exact ⟨by show look l (rf m j).name ≠ look m (rf m j).name; rw [h1, h2]; simp, by show (0 : Int) = _; rw [h2]; rfl, by simp [h1]⟩
 ·rintro ⟨h1, h2, h3⟩
  cases e : look l u.name with
  | some i =>
   obtain ⟨j, hj, hx⟩ := mem_rf (look_some e)
   have hn : (rf l j).name = u.name := by rw [hx]
   have hi : (rf l j).id = i := by rw [hx]
   have h4 := find_look hm u.name
   rw [e] at h1 h2
   refine .inl ⟨j, hj, ?_, mv_ext hn.symm (by rw [hn, h4.2, h3]) (by rw [hi, h2]; rfl)⟩
   unfold goneB
   rw [hn, hi, Bool.or_eq_true, decide_eq_true_eq, decide_eq_true_eq]
   cases e2 : look m u.name with
   | none => exact .inl (h4.1.2 e2)
   | some k =>
    rw [e2] at h1 h4
    exact .inr fun e3 => h1 (by rw [← e3, h4.2]; rfl)
  | none =>
   cases e2 : look m u.name with
   | none => exact absurd (by rw [e, e2]) h1
   | some k =>
    obtain ⟨j, hj, hx⟩ := mem_rf (look_some e2)
    have hn : (rf m j).name = u.name := by rw [hx]
    have hi : (rf m j).id = k := by rw [hx]
    rw [e] at h2; rw [e2] at h3
    exact .inr ⟨j, hj, by rw [hn]; exact (find_look hl u.name).1.2 e, mv_ext hn.symm (by rw [hi, h3]; rfl) (by rw [h2]; rfl)⟩
theorem moves_once {l m : List Rf} (hl : Asc l) (hm : Asc m) : (movesL l m).Pairwise fun a b => a.name ≠ b.name := by
 have hA : ∀ k, k ≤ l.length → (movesA l m k).Pairwise fun a b => a.name ≠ b.name := by
  intro k
  induction k with
  | zero => intro _; exact List.Pairwise.nil
  | succ k ih =>
   intro hk
   unfold movesA
   split
   ·refine List.pairwise_append.2 ⟨ih (by omega), List.pairwise_singleton _ _, fun a ha b hb => ?_⟩
    rw [List.mem_singleton] at hb; subst hb
    obtain ⟨j, hj, _, rfl⟩ := mem_movesA.1 ha
    exact strLt_ne (asc_iff.1 hl j k hj hk)
   ·exact ih (by omega)
 have hB : ∀ k, k ≤ m.length → (movesB l m (movesA l m l.length) k).Pairwise fun a b => a.name ≠ b.name := by
  intro k
  induction k with
  | zero => intro _; exact hA _ (Nat.le_refl _)
  | succ k ih =>
   intro hk
   unfold movesB
   split
   ·rename_i hg
    refine List.pairwise_append.2 ⟨ih (by omega), List.pairwise_singleton _ _, fun a ha b hb => ?_⟩
    rw [List.mem_singleton] at hb; subst hb
    rcases mem_movesB.1 ha with h1 | ⟨j, hj, _, rfl⟩
    ·obtain ⟨j, hj, _, rfl⟩ := mem_movesA.1 h1
     exact find_none_iff.1 hg _ (rf_mem hj)
    ·exact strLt_ne (asc_iff.1 hm j k hj hk)
   ·exact ih (by omega)
 exact hB _ (Nat.le_refl _)
theorem sorted_lead {l m : List Rf} (hl : Asc l) (hm : Asc m) {d : List Mv} (hp : d.Perm (movesL l m)) (hs : d.Pairwise fun a b => strLt b.name a.name = false) : d = leadL l m := by
 have h1 : d.Pairwise fun a b => a.name ≠ b.name := (hp.pairwise_iff (fun h e => h e.symm)).2 (moves_once hl hm)
 refine mvAsc_ext (hs.imp₂ (fun a b h2 h3 => ?_) h1) (lead_asc _ l m (Nat.le_refl _) hl hm) fun u => ?_
 ·cases e : strLt a.name b.name
  ·exact absurd (strLt_tri e h2) h3
  ·rfl
 ·rw [hp.mem_iff, mem_moves hl hm]; exact (mem_lead _ l m (Nat.le_refl _) hl hm u).symm
end Go.Proofs.YtjdgpgfiomnjkaaGreatDoor
namespace Go.Proofs.YtjdgpgfiomnjkaaGreatDoor
open Go.RowKit
set_option linter.unusedVariables false
set_option linter.unusedSimpArgs false
set_option linter.unusedSectionVars false
variable [Ghost]
set_option maxRecDepth 100000 in
set_option maxHeartbeats 1000000 in
theorem dnames_any (l : List Rf) (v : Value) (S : Nat → Prop) (w : World) (h : RefsV S w v l) :
  Calls Tryz.prog 176 #[v] w fun e w' => e = .returned (.int .i64 (namesE l)) ∧ Below w.heap.size w w' := by
 obtain ⟨a, n, cap, HN, rfl, h1, h2, h3, h4, h5⟩ := h.open
 have H5 := Lib.hid h5
 clear h h5
 obtain ⟨R, hR, hR1, _⟩ := cls_plain w
 have hRb := hR.below
 have hRn := hR.next
 have HE := Lib.hid (show namesE l = scan (fun k => nameErr (rf l k).name) n by rw [HN.out]; rfl)
 go_enter Tryz.func176, Tryz.ntmps176
 go_wp2_with fail
 go_loopw [8] (fun i wr => ∃ k : Nat, k ≤ n ∧ i = .int .i64 k ∧ Hid (scan (fun k => nameErr (rf l k).name) k = 0) ∧ In R wr) (fun i _ => n - (intOf i).toNat)
 case atStart => exact ⟨0, by omega, rfl, rfl, hR1⟩
 case round =>
  obtain ⟨k, hk, rfl, Hs, hRw⟩ := hrel
  clear hR1
  by_cases hlt : k < n
  ·obtain ⟨b, off, rfl, hb, k0, k1⟩ := h4 (by omega)
   have x0 := k0 k wr hlt (hRb _ hRw)
   have x1 := k1 k wr hlt (hRb _ hRw)
   clear h4 k0 k1
   obtain ⟨Q, hQ, hQ1, hy⟩ := cls_box wr #[.string (rf l k).name, .int .i64 (rf l k).id] 62
   have y0 := hy 0 _ rfl _ hQ1
   have hR2 := hRn _ _ hRw (hQ.below _ hQ1)
   have hi1 : (0 : Int) ≤ (k : Int) := by omega
   have hi2 : (k : Int) < (n : Int) := by omega
   have Hna := Lib.hid (fun x => name_any (rf l k).name x (H5.out k hlt).2)
   clear hy
   by_cases hz : nameErr (rf l k).name = 0
   ·have Hz := Lib.hid hz
    rw [hz] at Hna
    clear hz
    go_wp2_with fail
    refine (Hna.out _).mono ?_
    rintro e w' ⟨rfl, rfl⟩
    go_wp2_with fail
    go_roundw
    case rel => exact ⟨k + 1, by omega, by go_num, scan_next Hs.out Hz.out, hR2⟩
    case measure => simp [intOf]; omega
   ·have HF := Lib.hid (show namesE l = nameErr (rf l k).name by rw [HE.out]; exact scan_hit Hs.out hz hlt)
    have hq : (nameErr (rf l k).name != 0) = true := by simpa using hz
    clear hz
    generalize nameErr (rf l k).name = c at *
    go_wp2_with fail
    refine (Hna.out _).mono ?_
    rintro e w' ⟨rfl, rfl⟩
    go_wp2_with fail
    go_ret
    exact ⟨ret_int HF.out.symm, hRb _ hR2⟩
  ·obtain rfl : k = n := by omega
   have HF := Lib.hid (show namesE l = 0 by rw [HE.out]; exact Hs.out)
   go_wp2_with fail
   go_ret
   exact ⟨ret_int HF.out.symm, hRb _ hRw⟩
set_option maxRecDepth 100000 in
set_option maxHeartbeats 1000000 in
theorem drises_any (l : List Rf) (v : Value) (S : Nat → Prop) (w : World) (h : RefsV S w v l) :
  Calls Tryz.prog 179 #[v] w fun e w' => e = .returned (.bool (risesB l)) ∧ Below w.heap.size w w' := by
 obtain ⟨a, n, cap, HN, rfl, h1, h2, h3, h4, h5⟩ := h.open
 clear h h5
 obtain ⟨R, hR, hR1, _⟩ := cls_plain w
 have hRb := hR.below
 have hRn := hR.drewN
 have HF := Lib.hid (fun i (hi : i < n) (h0 : 0 < i) h => rises_not (l := l) (i := i) (by rw [← HN.out]; exact hi) h0 h)
 have HT := Lib.hid (fun (h : ∀ i, i < n → 0 < i → stepB l i = true) => rises_all (l := l) (by rw [← HN.out]; exact h))
 go_enter Tryz.func179, Tryz.ntmps179
 go_wp2_with fail
 go_loopw [3] (fun i wr => ∃ k : Nat, 1 ≤ k ∧ (k ≤ n ∨ k = 1) ∧ i = .int .i64 k ∧ Hid (∀ j, j < k → 0 < j → stepB l j = true) ∧ In R wr) (fun i _ => n - (intOf i).toNat)
 case atStart => exact ⟨1, by omega, .inr rfl, rfl, fun j h1 h2 => by omega, hR1⟩
 case round =>
  obtain ⟨k, hk1, hk, rfl, Hs, hRw⟩ := hrel
  clear hR1
  by_cases hlt : k < n
  ·obtain ⟨b, off, rfl, hb, k0, k1⟩ := h4 (by omega)
   have x0 := fun x (hx : In R x) => k0 k x hlt (hRb _ hx)
   have x1 := fun x (hx : In R x) => k0 (k - 1) x (by omega) (hRb _ hx)
   clear h4 k0 k1
   have hi1 : (0 : Int) ≤ (k : Int) := by omega
   have hi2 : (k : Int) < (n : Int) := by omega
   have hm1 : (1 : Int) ≤ (k : Int) := by omega
   have hm2 : (k : Int) - 1 < (n : Int) := by omega
   have hm3 : (0 : Int) ≤ (k : Int) - 1 := by omega
   have htn : ((k : Int) - 1).toNat = k - 1 := by omega
   have hwr := wrap_in (n := (k : Int) - 1) (by omega)
   have Hst := Lib.hid (show stepB l k = Op.bytesLess (rf l (k - 1)).name.toList (rf l k).name.toList from rfl)
   cases hq : Op.bytesLess (rf l (k - 1)).name.toList (rf l k).name.toList
   ·have HK := Lib.hid (HF.out k hlt (by omega) (by rw [Hst.out]; exact hq))
    go_wp2_with fail
    go_quiet (fail)
    go_wp2_with fail
    go_ret
    exact ⟨by rw [HK.out]; rfl, hRb _ (hRn _ _ hRw)⟩
   ·have HK := Lib.hid (show ∀ j, j < k + 1 → 0 < j → stepB l j = true from fun j h1 h2 => by
     by_cases e : j = k
     ·subst e; rw [Hst.out]; exact hq
     ·exact Hs.out j (by omega) h2)
    go_wp2_with fail
    go_quiet (fail)
    go_wp2_with fail
    go_roundw
    case rel => exact ⟨k + 1, by omega, .inl (by omega), by go_num, HK.out, hRn _ _ hRw⟩
    case measure => simp [intOf]; omega
  ·have HK := Lib.hid (HT.out fun i hi h0 => Hs.out i (by omega) h0)
   go_wp2_with fail
   go_ret
   exact ⟨by rw [HK.out]; rfl, hRb _ hRw⟩
set_option maxRecDepth 100000 in
set_option maxHeartbeats 1000000 in
theorem dboth1_any (l : List Rf) (v : Value) (S : Nat → Prop) (w : World) (h : RefsV S w v l) :
  Calls Tryz.prog 178 #[v] w fun e w' => e = .returned (.bool (!risesB l)) ∧ Below w.heap.size w w' := by
 have H := Lib.hid (drises_any l v S w h)
 obtain ⟨p, rfl⟩ := h.shape
 clear h
 generalize risesB l = r at *
 go_enter Tryz.func178, Tryz.ntmps178
 go_wp2_with fail
 refine H.out.mono ?_
 rintro e w' ⟨rfl, hb⟩
 go_wp2_with fail
 go_ret
 exact ⟨rfl, hb⟩
set_option maxRecDepth 100000 in
set_option maxHeartbeats 1000000 in
theorem indexFuncL_any (l m : List Rf) (v u : Value) (S S' : Nat → Prop) (b : Nat) (w : World) (h : RefsV S w v l) (hm : RefsV S' w u m) (hb : w.heap[b]? = some (.cells #[v, u] 23 (0, 0))) :
  Calls Tryz.prog 225 #[.slice (some ⟨b, 0, none⟩) 2 2, .func (.func 178) #[] #[]] w fun e w' => e = .returned (.int .i64 (if risesB l = true then if risesB m = true then -1 else 1 else 0)) ∧ Below w.heap.size w w' := by
 obtain ⟨R, hR, hR1, _⟩ := cls_plain w
 have hRb := hR.below
 have hRn := hR.next
 have H1 := Lib.hid (fun x (hx : In R x) => dboth1_any l v S x (h.below (hRb _ hx)))
 have H2 := Lib.hid (fun x (hx : In R x) => dboth1_any m u S' x (hm.below (hRb _ hx)))
 have hbw := lt_of_block hb
 have c0 := fun x (hx : In R x) => block_cell (w := x) (j := 0) (((hRb _ hx).block _ hbw).trans hb) rfl
 have c1 := fun x (hx : In R x) => block_cell (w := x) (j := 1) (((hRb _ hx).block _ hbw).trans hb) rfl
 obtain ⟨p, rfl⟩ := h.shape
 obtain ⟨q, rfl⟩ := hm.shape
 clear h hm hb
 have eg : ∀ args w, (callFunc 178 args).run Tryz.prog w = .ok (.enter 178 args) w := fun _ _ => rfl
 generalize risesB l = rl at *
 generalize risesB m = rm at *
 go_enter Tryz.func225, Tryz.ntmps225
 go_wp2_with fail
 go_loopw [8] (fun i wr => In R wr ∧ (i = .int .i64 0 ∨ (i = .int .i64 1 ∧ rl = true) ∨ (i = .int .i64 2 ∧ rl = true ∧ rm = true))) (fun i _ => 2 - (intOf i).toNat)
 case atStart => exact ⟨hR1, .inl rfl⟩
 case round =>
  obtain ⟨hRw, rfl | ⟨rfl, rfl⟩ | ⟨rfl, rfl, rfl⟩⟩ := hrel
  ·clear hR1
   have x0 := c0 _ hRw
   cases rl
   ·go_wp2_with fail
    refine (H1.out _ hRw).mono ?_
    rintro e w' ⟨rfl, hb⟩
    have hR2 := hRn _ _ hRw hb
    go_wp2_with fail
    go_ret
    exact ⟨rfl, hRb _ hR2⟩
   ·go_wp2_with fail
    refine (H1.out _ hRw).mono ?_
    rintro e w' ⟨rfl, hb⟩
    have hR2 := hRn _ _ hRw hb
    go_wp2_with fail
    go_roundw
    case rel => exact ⟨hR2, .inr (.inl ⟨rfl, by simp⟩)⟩
    case measure => simp [intOf]
  ·clear hR1
   have x0 := c1 _ hRw
   cases rm
   ·go_wp2_with fail
    refine (H2.out _ hRw).mono ?_
    rintro e w' ⟨rfl, hb⟩
    have hR2 := hRn _ _ hRw hb
    go_wp2_with fail
    go_ret
    exact ⟨rfl, hRb _ hR2⟩
   ·go_wp2_with fail
    refine (H2.out _ hRw).mono ?_
    rintro e w' ⟨rfl, hb⟩
    have hR2 := hRn _ _ hRw hb
    go_wp2_with fail
    go_roundw
    case rel => exact ⟨hR2, .inr (.inr ⟨rfl, by simp⟩)⟩
    case measure => simp [intOf]
  ·go_wp2_with fail
   go_ret
   exact ⟨rfl, hRb _ hRw⟩
set_option maxRecDepth 100000 in
set_option maxHeartbeats 1000000 in
theorem containsFuncL_any (l m : List Rf) (v u : Value) (S S' : Nat → Prop) (b : Nat) (w : World) (h : RefsV S w v l) (hm : RefsV S' w u m) (hb : w.heap[b]? = some (.cells #[v, u] 23 (0, 0))) :
  Calls Tryz.prog 177 #[.slice (some ⟨b, 0, none⟩) 2 2, .func (.func 178) #[] #[]] w fun e w' => e = .returned (.bool (!(risesB l && risesB m))) ∧ Below w.heap.size w w' := by
 have H := Lib.hid (indexFuncL_any l m v u S S' b w h hm hb)
 clear h hm hb
 generalize risesB l = rl at *
 generalize risesB m = rm at *
 cases rl <;> cases rm
 all_goals
  simp only [if_true, if_false, Bool.false_eq_true] at H
  go_enter Tryz.func177, Tryz.ntmps177
  go_wp2_with fail
  refine H.out.mono ?_
  rintro e w' ⟨rfl, hb⟩
  go_wp2_with fail
  go_ret
  exact ⟨rfl, hb⟩
set_option maxRecDepth 100000 in
set_option maxHeartbeats 4000000 in
theorem dboth_any (l m : List Rf) (v u : Value) (S S' : Nat → Prop) (b : Nat) (w : World) (h : RefsV S w v l) (hm : RefsV S' w u m) (hb : w.heap[b]? = some (.cells #[v, u] 23 (0, 0))) :
  Calls Tryz.prog 124 #[.slice (some ⟨b, 0, none⟩) 2 2] w fun e w' => e = .returned (.int .i64 (listsE l m)) ∧ Below w.heap.size w w' := by
 obtain ⟨R, hR, hR1, _⟩ := cls_plain w
 have hRb := hR.below
 have hRn := hR.next
 have hbw := lt_of_block hb
 have H1 := Lib.hid (fun x (hx : In R x) => dnames_any l v S x (h.below (hRb _ hx)))
 have H2 := Lib.hid (fun x (hx : In R x) => dnames_any m u S' x (hm.below (hRb _ hx)))
 have H3 := Lib.hid (fun x (hx : In R x) => containsFuncL_any l m v u S S' b x (h.below (hRb _ hx)) (hm.below (hRb _ hx)) (((hRb _ hx).block _ hbw).trans hb))
 have c0 := fun x (hx : In R x) => block_cell (w := x) (j := 0) (((hRb _ hx).block _ hbw).trans hb) rfl
 have c1 := fun x (hx : In R x) => block_cell (w := x) (j := 1) (((hRb _ hx).block _ hbw).trans hb) rfl
 have HE := Lib.hid (show listsE l m = if 8 < l.length ∨ 8 < m.length then 2 else if namesE l ≠ 0 then namesE l else if namesE m ≠ 0 then namesE m else if risesB l = true ∧ risesB m = true then 0 else 4 from rfl)
 have hN := h.open
 have hM := hm.open
 obtain ⟨pa, n, pc, HN, rfl, hc1, hc2, hc3, _⟩ := hN
 obtain ⟨qa, n', qc, HM, rfl, hd1, hd2, hd3, _⟩ := hM
 rw [← HN.out, ← HM.out] at HE
 clear h hm hb
 generalize risesB l = rl at *
 generalize risesB m = rm at *
 generalize namesE l = nl at *
 generalize namesE m = nm at *
 go_enter Tryz.func124, Tryz.ntmps124
 go_wp2_with fail
 go_loopw [10] (fun i wr => In R wr ∧ (i = .int .i64 0 ∨ (i = .int .i64 1 ∧ n ≤ 8) ∨ (i = .int .i64 2 ∧ n ≤ 8 ∧ n' ≤ 8))) (fun i _ => 2 - (intOf i).toNat)
 case atStart => exact ⟨hR1, .inl rfl⟩
 case round =>
  obtain ⟨hRw, rfl | ⟨rfl, h8⟩ | ⟨rfl, h8, h9⟩⟩ := hrel
  ·clear hR1
   have x0 := c0 _ hRw
   by_cases h8 : 8 < n
   ·have HF := Lib.hid (show listsE l m = 2 by rw [HE.out, if_pos (.inl h8)])
    go_wp2_with fail
    go_ret
    exact ⟨ret_int HF.out.symm, hRb _ hRw⟩
   ·go_wp2_with fail
    go_roundw
    case rel => exact ⟨hRw, .inr (.inl ⟨rfl, by omega⟩)⟩
    case measure => simp [intOf]
  ·clear hR1
   have x0 := c1 _ hRw
   by_cases h9 : 8 < n'
   ·have HF := Lib.hid (show listsE l m = 2 by rw [HE.out, if_pos (.inr h9)])
    go_wp2_with fail
    go_ret
    exact ⟨ret_int HF.out.symm, hRb _ hRw⟩
   ·go_wp2_with fail
    go_roundw
    case rel => exact ⟨hRw, .inr (.inr ⟨rfl, h8, by omega⟩)⟩
    case measure => simp [intOf]
  ·clear hR1
   rw [if_neg (by omega)] at HE
   go_wp2_with fail
   go_loopw [20] (fun i wx => In R wx ∧ (i = .int .i64 0 ∨ (i = .int .i64 1 ∧ nl = 0) ∨ (i = .int .i64 2 ∧ nl = 0 ∧ nm = 0))) (fun i _ => 2 - (intOf i).toNat)
   case atStart => exact ⟨hRw, .inl rfl⟩
   case round =>
    clear hRw
    obtain ⟨hRx, rfl | ⟨rfl, rfl⟩ | ⟨rfl, rfl, rfl⟩⟩ := hrel
    ·have x0 := c0 _ hRx
     by_cases h1 : nl = 0
     ·subst h1
      go_wp2_with fail
      refine (H1.out _ hRx).mono ?_
      rintro e w' ⟨rfl, hb⟩
      have hR2 := hRn _ _ hRx hb
      go_wp2_with fail
      go_roundw
      case rel => exact ⟨hR2, .inr (.inl ⟨rfl, by simp⟩)⟩
      case measure => simp [intOf]
     ·have HF := Lib.hid (show listsE l m = nl by rw [HE.out, if_pos h1])
      have hq : (nl != 0) = true := by simpa using h1
      clear h1
      go_wp2_with fail
      refine (H1.out _ hRx).mono ?_
      rintro e w' ⟨rfl, hb⟩
      have hR2 := hRn _ _ hRx hb
      go_wp2_with fail
      go_ret
      exact ⟨ret_int HF.out.symm, hRb _ hR2⟩
    ·have x0 := c1 _ hRx
     rw [if_neg (by simp)] at HE
     by_cases h1 : nm = 0
     ·subst h1
      go_wp2_with fail
      refine (H2.out _ hRx).mono ?_
      rintro e w' ⟨rfl, hb⟩
      have hR2 := hRn _ _ hRx hb
      go_wp2_with fail
      go_roundw
      case rel => exact ⟨hR2, .inr (.inr ⟨rfl, by simp⟩)⟩
      case measure => simp [intOf]
     ·have HF := Lib.hid (show listsE l m = nm by rw [HE.out, if_pos h1])
      have hq : (nm != 0) = true := by simpa using h1
      clear h1
      go_wp2_with fail
      refine (H2.out _ hRx).mono ?_
      rintro e w' ⟨rfl, hb⟩
      have hR2 := hRn _ _ hRx hb
      go_wp2_with fail
      go_ret
      exact ⟨ret_int HF.out.symm, hRb _ hR2⟩
    ·rw [if_neg (by simp), if_neg (by simp)] at HE
     cases rl <;> cases rm
     all_goals
      have HF := Lib.hid HE.out
      simp only [if_true, if_false, Bool.false_eq_true, and_self, and_true, true_and, and_false, false_and] at HF
      simp only [Bool.and_true, Bool.and_false, Bool.true_and, Bool.false_and, Bool.not_true, Bool.not_false] at H3
      go_wp2_with fail
      refine (H3.out _ hRx).mono ?_
      rintro e w' ⟨rfl, hb⟩
      have hR2 := hRn _ _ hRx hb
      go_wp2_with fail
      go_ret
      exact ⟨ret_int HF.out.symm, hRb _ hR2⟩
end Go.Proofs.YtjdgpgfiomnjkaaGreatDoor
namespace Go.Proofs.YtjdgpgfiomnjkaaGreatDoor
open Go.RowKit
set_option linter.unusedVariables false
set_option linter.unusedSimpArgs false
set_option linter.unusedSectionVars false
variable [Ghost]
theorem Tryz.infoUpd : (Tryz.prog.info? 107).map (fun i => (i.zero, i.size, i.bytes)) = some (some (.agg #[.string ⟨#[]⟩, .int .i64 0, .int .i64 0]), 3, 32) := by kernel_rfl
def MvOk (u : Mv) : Prop := I64 u.old ∧ I64 u.new ∧ u.name.size ≤ 140737488351232
def OwnU (B : Nat) (w : World) (v : Value) (l : List Mv) : Prop :=
 w.ownsRow B 107 3 v l.length (flat (fun i => mvCells (mv l i)) l.length) ∧ ∀ r ∈ l, MvOk r
theorem OwnU.nil (B : Nat) (w : World) : OwnU B w (.slice none 0 0) [] := ⟨World.ownsRow_nil _ _ _ _, fun r h => by cases h⟩
theorem OwnU.below {B : Nat} {w w' : World} {v : Value} {l : List Mv} (h : OwnU B w v l) (hb : Below w.heap.size w w') : OwnU B w' v l := ⟨own_below h.1 hb, h.2⟩
theorem OwnU.shape {B : Nat} {w : World} {v : Value} {l : List Mv} (h : OwnU B w v l) : ∃ a c, v = .slice a l.length c := own_shape h.1
theorem OwnU.block {B : Nat} {w : World} {v : Value} {l : List Mv} (h : OwnU B w v l) {g : Nat} (hg : v.ownBlock = some g) : B ≤ g ∧ g < w.heap.size := h.1.lt g hg
theorem OwnU.mvs {B : Nat} {w : World} {v : Value} {l : List Mv} (h : OwnU B w v l) (hl : l.length * 32 ≤ 140737488351232) : MvsV (fun b => B ≤ b ∧ v.ownBlock = some b) w v l :=
 ⟨own_sl h.1 (fun g hg => ⟨(h.block hg).1, hg⟩) hl (fun i hi j u hu => flat_get (cs := fun i => mvCells (mv l i)) (fun _ _ => rfl) i hi j u hu), h.2⟩
theorem mv_snoc_lt {l : List Mv} {o : Mv} {i : Nat} (h : i < l.length) : mv (l ++ [o]) i = mv l i := by
 unfold mv at_; simp only [List.getD_eq_getElem?_getD, List.getElem?_append_left h]
theorem mv_snoc_eq {l : List Mv} {o : Mv} : mv (l ++ [o]) l.length = o := by
 unfold mv at_; simp
theorem one_mv (r : Mv) : ∀ u ∈ mvCells r, u.oneCell' = true := by
 intro u hu
 simp only [mvCells, List.mem_cons, List.not_mem_nil, or_false] at hu
 rcases hu with rfl | rfl | rfl <;> rfl
theorem flat_snoc_mv (l : List Mv) (p : Mv) : flat (fun i => mvCells (mv (l ++ [p]) i)) (l ++ [p]).length = flat (fun i => mvCells (mv l i)) l.length ++ mvCells p := by
 rw [List.length_append, List.length_singleton, flat, flat_congr (fun i hi => by rw [mv_snoc_lt hi]), mv_snoc_eq]
theorem wpList_append_mv {ops : Array Oper} {rest : List Oper} {o : Oper} {a : Act} {w : World} {Q : Exit → Act → World → Prop} (hgd : o.guard = none) (s x : Operand)
  (ho : o.op = .call { callee := .builtin .append, args := #[s, x], argTypes := #[24, 24] }) {B : Nat} {v : Value} {l : List Mv} {p : Mv}
  (hG : OwnU B w v l) (hp : MvOk p) (hl : (l.length + 1) * 32 ≤ 140737488351232) (hB : B ≤ w.heap.size)
  (hs : a.eval s = v) {N : Nat} (hx : a.eval x = .slice (some ⟨N, 0, none⟩) 1 1) (hN : N = w.heap.size)
  (h : ∀ v' w', OwnU B w' v' (l ++ [p]) → Upd (fun b => v.ownBlock = some b) w w' → wpList Tryz.prog ops Q rest (a.put o.dst v') w') :
  wpList Tryz.prog ops Q (o :: rest) a (w.alloc (.cells #[.string p.name, .int .i64 p.old, .int .i64 p.new] 107)) := by
 subst hN
 obtain ⟨i0, hi, hz0, hz1, hz2⟩ := info_parts Tryz.infoUpd
 refine wpList_append_own_at _ hgd s x 24 ho B 107 i0 _ 3 32 Tryz.underlying24 hi hz0 hz1 hz2 rfl (by decide) v l.length _ hs (hG.1.alloc _) ⟨w.heap.size, 0, none⟩ 1 1 (mvCells p) hx rfl
  (World.news_of_block (cs := #[.string p.name, .int .i64 p.old, .int .i64 p.new]) (t := 107) (fr := (0, 0)) (heap_alloc_new w _)) (one_mv p) ?_ (by omega) (by simp; omega) ?_
 ·unfold maxLen; omega
 ·intro v' w' hown' hgrow _ hat
  refine h v' w' ⟨?_, fun r hr => ?_⟩ (Upd.grown ((Upd.refl _ _).alloc _) hgrow (fun k hk _ => hk))
  ·rw [flat_snoc_mv, List.length_append, List.length_singleton]; exact hown'
  ·rcases List.mem_append.1 hr with hr | hr
   ·exact hG.2 r hr
   ·rw [List.mem_singleton.1 hr]; exact hp
end Go.Proofs.YtjdgpgfiomnjkaaGreatDoor
namespace Go.Proofs.YtjdgpgfiomnjkaaGreatDoor
open Go.RowKit
set_option linter.unusedVariables false
set_option linter.unusedSimpArgs false
set_option linter.unusedSectionVars false
variable [Ghost]
def sameMv (a b : Mv) : Bool := (a.name.toList == b.name.toList) && (a.old == b.old) && (a.new == b.new)
theorem sameMv_iff (a b : Mv) : sameMv a b = true ↔ a = b := by
 unfold sameMv
 simp only [Bool.and_eq_true, beq_iff_eq]
 constructor
 ·rintro ⟨⟨h1, h2⟩, h3⟩
  exact mv_ext (by have := (text_eq a.name b.name); rw [h1] at this; simpa using this) h2 h3
 ·rintro rfl; exact ⟨⟨rfl, rfl⟩, rfl⟩
set_option maxHeartbeats 1000000 in
theorem run_neq_mv (a b : Mv) (w : World) : (binOp .neq 107 (.agg #[.string a.name, .int .i64 a.old, .int .i64 a.new]) (.agg #[.string b.name, .int .i64 b.old, .int .i64 b.new])).run Tryz.prog w = .ok (.bool !sameMv a b) w := by
 have hS : Tryz.prog.underlying 107 = some (.struct (Tryz.prog.fieldsOf 107)) := by kernel_rfl
 have hp : Tryz.prog.stoodInHeld 107 = false := by kernel_rfl
 have u9 := Tryz.underlying9
 have u3 := Tryz.underlying3
 rw [run_neq_struct, show (10000 : Nat) = 9999 + 1 from rfl, run_equalIn_agg w 9999 107 _ _ hS hp]
 simp only [Program.fieldsOf, Tryz.underlying107]
 unfold sameMv
 go_simp
 by_cases h1 : a.name.toList = b.name.toList <;> by_cases h2 : a.old = b.old <;> by_cases h3 : a.new = b.new <;> simp [h1, h2, h3]
def sameMvs (xs ys : List Mv) : Bool := decide (xs.length = ys.length) && (List.range xs.length).all fun k => sameMv (mv xs k) (mv ys k)
theorem sameMvs_iff (xs ys : List Mv) : sameMvs xs ys = true ↔ xs = ys := by
 unfold sameMvs
 simp only [Bool.and_eq_true, decide_eq_true_eq, List.all_eq_true, List.mem_range, sameMv_iff]
 constructor
 ·rintro ⟨h1, h2⟩
  apply List.ext_getElem h1
  intro i hi hi2
  have := h2 i hi
  rwa [mv_lt hi, mv_lt hi2] at this
 ·rintro rfl; exact ⟨rfl, fun _ _ => rfl⟩
theorem sameMvs_len {xs ys : List Mv} (h : xs.length ≠ ys.length) : sameMvs xs ys = false := by unfold sameMvs; simp [h]
theorem sameMvs_at {xs ys : List Mv} {k : Nat} (hk : k < xs.length) (h : sameMv (mv xs k) (mv ys k) = false) : sameMvs xs ys = false := by
 cases e : sameMvs xs ys
 ·rfl
 ·rw [sameMvs_iff] at e
  subst e
  rw [(sameMv_iff _ _).2 rfl] at h; cases h
theorem sameMvs_all {xs ys : List Mv} (hl : xs.length = ys.length) (h : ∀ k, k < xs.length → sameMv (mv xs k) (mv ys k) = true) : sameMvs xs ys = true := by
 unfold sameMvs
 simp only [Bool.and_eq_true, decide_eq_true_eq, List.all_eq_true, List.mem_range]
 exact ⟨hl, h⟩
set_option maxHeartbeats 2000000 in
theorem sameUpdates_any (xs ys : List Mv) (v v' : Value) (S S' : Nat → Prop) (w : World) (h1 : MvsV S w v xs) (h2 : MvsV S' w v' ys) :
  Calls Tryz.prog 66 #[v, v'] w fun e w' => e = .returned (.bool (sameMvs xs ys)) ∧ Below w.heap.size w w' := by
 obtain ⟨a, n, cap, HN, rfl, hc1, hc2, hc8, hc⟩ := h1.open
 obtain ⟨a', n', cap', HN', rfl, hc1', hc2', hc8', hc'⟩ := h2.open
 obtain ⟨R, hR, hR1, _⟩ := cls_plain w
 have hRb := hR.below
 have hRn := hR.drewN
 by_cases hl : n = n'
 ·subst hl
  have Hall := Lib.hid (sameMvs_all (xs := xs) (ys := ys) (by rw [← HN.out, ← HN'.out]))
  go_enter Tryz.func66, Tryz.ntmps66
  go_wp2
  go_loopw [5] (fun i wr => ∃ k : Nat, k ≤ n ∧ i = .int .i64 k ∧ Hid (∀ j, j < k → sameMv (mv xs j) (mv ys j) = true) ∧ In R wr) (fun i _ => n - (intOf i).toNat)
  case atStart => exact ⟨0, by omega, rfl, fun j hj => absurd hj (by omega), hR1⟩
  case round =>
   obtain ⟨k, hk, rfl, Hs, hRw⟩ := hrel
   clear hR1
   by_cases hlt : k < n
   ·obtain ⟨b, off, rfl, hb, k0, k1, k2⟩ := hc (by omega)
    obtain ⟨b', off', rfl, hb', k0', k1', k2'⟩ := hc' (by omega)
    have x0 : ∀ x, In R x → x.cell? ⟨b, off + k * 3, none⟩ = some (.string (mv xs k).name) := fun x hx => k0 k x hlt (hRb x hx)
    have x1 : ∀ x, In R x → x.cell? ⟨b, off + k * 3 + 1, none⟩ = some (.int .i64 (mv xs k).old) := fun x hx => k1 k x hlt (hRb x hx)
    have x2 : ∀ x, In R x → x.cell? ⟨b, off + k * 3 + 2, none⟩ = some (.int .i64 (mv xs k).new) := fun x hx => k2 k x hlt (hRb x hx)
    have x0' : ∀ x, In R x → x.cell? ⟨b', off' + k * 3, none⟩ = some (.string (mv ys k).name) := fun x hx => k0' k x hlt (hRb x hx)
    have x1' : ∀ x, In R x → x.cell? ⟨b', off' + k * 3 + 1, none⟩ = some (.int .i64 (mv ys k).old) := fun x hx => k1' k x hlt (hRb x hx)
    have x2' : ∀ x, In R x → x.cell? ⟨b', off' + k * 3 + 2, none⟩ = some (.int .i64 (mv ys k).new) := fun x hx => k2' k x hlt (hRb x hx)
    clear hc hc' k0 k1 k0' k1' k2 k2'
    have hi1 : (0 : Int) ≤ (k : Int) := by omega
    have hi2 : (k : Int) < (n : Int) := by omega
    have hneq := run_neq_mv (mv xs k) (mv ys k)
    cases he : sameMv (mv xs k) (mv ys k)
    ·rw [he] at hneq
     have Hq := Lib.hid (sameMvs_at (xs := xs) (ys := ys) (k := k) (by rw [← HN.out]; exact hlt) he); clear he
     go_wp2_with fail
     go_quiet (fail)
     go_wp2
     go_ret
     exact ⟨by rw [Hq.out]; rfl, hRb _ (hRn _ _ hRw)⟩
    ·rw [he] at hneq
     have He := Lib.hid he; clear he
     go_wp2_with fail
     go_quiet (fail)
     go_wp2
     go_roundw
     case rel => exact ⟨k + 1, by omega, by go_num, all_next Hs.out He.out, hRn _ _ hRw⟩
     case measure => simp [intOf]; omega
   ·have Hk := Lib.hid (show sameMvs xs ys = true from Hall.out (fun j hj => Hs.out j (by have := HN.out; omega)))
    go_wp2
    go_ret
    exact ⟨by rw [Hk.out]; rfl, hRb _ hRw⟩
 ·have Hl := Lib.hid (sameMvs_len (xs := xs) (ys := ys) (by rw [← HN.out, ← HN'.out]; exact hl))
  go_enter Tryz.func66, Tryz.ntmps66
  go_wp2
  go_ret
  exact ⟨by rw [Hl.out]; rfl, hRb _ hR1⟩
end Go.Proofs.YtjdgpgfiomnjkaaGreatDoor
