
/- The plain law of stores: in whatever order objects come the store is the same; nothing is lost; each beginning is a store. No program here. -/
import Derived.Test.YtdhoodloklgokaaGreatDoorAddA
import Derived.Test.YtdhoodloklgokaaGreatDoorBase
namespace Go.Proofs.YtdhoodloklgokaaGreatDoor
set_option linter.unusedVariables false
set_option linter.unusedSimpArgs false

theorem obj_mem {l : List Obj} {i : Nat} (h : i < l.length) : obj l i ∈ l := at_mem h
theorem mem_obj {l : List Obj} {x : Obj} (h : x ∈ l) : ∃ i, i < l.length ∧ obj l i = x := by
  obtain ⟨i, hi, rfl⟩ := List.getElem_of_mem h
  exact ⟨i, hi, obj_lt hi⟩
theorem mem_ins {l : List Obj} {i : Nat} {o x : Obj} : x ∈ ins l i o ↔ x = o ∨ x ∈ l := by
  unfold ins
  rw [List.mem_append, List.mem_cons]
  constructor
  · rintro (h | h | h)
    · exact .inr (List.mem_of_mem_take h)
    · exact .inl h
    · exact .inr (List.mem_of_mem_drop h)
  · rintro (h | h)
    · exact .inr (.inl h)
    · rw [← List.take_append_drop i l, List.mem_append] at h
      rcases h with h | h
      · exact .inl h
      · exact .inr (.inr h)

theorem isAt_spec {l : List Obj} {id : Int} (h : isAt l id = true) : lo l id < l.length ∧ (obj l (lo l id)).id = id := by
  unfold isAt at h; simpa using h
theorem Rising.isAt_mem {l : List Obj} (h : Rising l) {x : Obj} (hx : x ∈ l) : isAt l x.id = true ∧ obj l (lo l x.id) = x := by
  obtain ⟨i, hi, rfl⟩ := mem_obj hx
  exact ⟨h.isAt_self hi, by rw [h.lo_self hi]⟩

theorem joinE_zero {l : List Obj} {o : Obj} : joinE l o = 0 ↔ (isAt l o.id = true → obj l (lo l o.id) = o) := by
  unfold joinE
  by_cases h : isAt l o.id = true ∧ sameObj (obj l (lo l o.id)) o = false
  · rw [if_pos h]
    constructor
    · intro e; cases e
    · intro e
      have := e h.1
      have h2 := h.2
      rw [this] at h2
      rw [(sameObj_iff o o).2 rfl] at h2; cases h2
  · rw [if_neg h]
    refine ⟨fun _ hat => ?_, fun _ => rfl⟩
    cases hs : sameObj (obj l (lo l o.id)) o
    · exact absurd ⟨hat, hs⟩ h
    · exact (sameObj_iff _ _).1 hs

theorem take_snoc_obj {l : List Obj} {n : Nat} (h : n < l.length) : l.take (n + 1) = l.take n ++ [obj l n] := by
  rw [List.take_succ_eq_append_getElem h, obj_lt h]

theorem joined_mem {l more : List Obj} : ∀ {n : Nat}, n ≤ more.length → scan (joinErr l more) n = 0 → ∀ x, x ∈ joined l more n ↔ x ∈ l ∨ x ∈ more.take n
  | 0, _, _, x => by simp [joined]
  | n + 1, hn, h, x => by
    have h0 : joinErr l more n = 0 := scan_zero h n (by omega)
    have hs : scan (joinErr l more) n = 0 := scan_of_zero fun k hk => scan_zero h k (by omega)
    have ih := joined_mem (by omega) hs
    rw [take_snoc_obj hn, List.mem_append, List.mem_singleton]
    show x ∈ joinL (joined l more n) (obj more n) ↔ _
    unfold joinL
    by_cases hat : isAt (joined l more n) (obj more n).id = true
    · rw [if_pos hat, ih x]
      have ho := (joinE_zero.1 h0) hat
      have hm : obj more n ∈ joined l more n := by rw [← ho]; exact obj_mem (isAt_spec hat).1
      have hm' := (ih _).1 hm
      constructor
      · rintro (a | a)
        · exact .inl a
        · exact .inr (.inl a)
      · rintro (a | a | a)
        · exact .inl a
        · exact .inr a
        · rw [a]; exact hm'
    · rw [if_neg hat, mem_ins, ih x]
      constructor
      · rintro (a | a | a)
        · exact .inr (.inr a)
        · exact .inl a
        · exact .inr (.inl a)
      · rintro (a | a | a)
        · exact .inr (.inl a)
        · exact .inr (.inr a)
        · exact .inl a

/-- no two of one id are unlike -/
def Cons (l more : List Obj) : Prop := ∀ x y, (x ∈ l ∨ x ∈ more) → (y ∈ l ∨ y ∈ more) → x.id = y.id → x = y

theorem joins_ok {l more : List Obj} (hr : Rising l) : scan (joinErr l more) more.length = 0 ↔ Cons l more := by
  constructor
  · intro h x y hx hy e
    have hm := joined_mem (Nat.le_refl _) h
    have hJ := joined_rising hr more more.length
    rw [List.take_length] at hm
    have h1 := hJ.isAt_mem ((hm x).2 hx)
    have h2 := hJ.isAt_mem ((hm y).2 hy)
    rw [← h1.2, e, h2.2]
  · intro hc
    have : ∀ n, n ≤ more.length → scan (joinErr l more) n = 0 := by
      intro n
      induction n with
      | zero => intro _; rfl
      | succ n ih =>
        intro hn
        have hs := ih (by omega)
        refine scan_next hs (joinE_zero.2 fun hat => ?_)
        have hm := joined_mem (Nat.le_of_succ_le hn) hs
        have h1 := isAt_spec hat
        have h2 := (hm _).1 (obj_mem h1.1)
        exact hc _ _ (h2.imp id List.mem_of_mem_take) (.inr (obj_mem hn)) h1.2
    exact this _ (Nat.le_refl _)

theorem Rising.pairwise {l : List Obj} (h : Rising l) : l.Pairwise (fun x y => x.id < y.id) := by
  rw [List.pairwise_iff_getElem]
  intro i j hi hj hij
  have := h i j hij hj
  rwa [obj_lt hi, obj_lt hj] at this
theorem sorted_ext : ∀ {a b : List Obj}, a.Pairwise (fun x y => x.id < y.id) → b.Pairwise (fun x y => x.id < y.id) → (∀ x, x ∈ a ↔ x ∈ b) → a = b
  | [], [], _, _, _ => rfl
  | [], y :: b, _, _, h => absurd ((h y).2 List.mem_cons_self) (by simp)
  | x :: a, [], _, _, h => absurd ((h x).1 List.mem_cons_self) (by simp)
  | x :: a, y :: b, ha, hb, h => by
    rw [List.pairwise_cons] at ha hb
    have e : x = y := by
      rcases List.mem_cons.1 ((h x).1 List.mem_cons_self) with e | h1
      · exact e
      · rcases List.mem_cons.1 ((h y).2 List.mem_cons_self) with e | h2
        · exact e.symm
        · have := hb.1 _ h1; have := ha.1 _ h2; omega
    subst e
    rw [sorted_ext ha.2 hb.2 fun z => ⟨fun hz => ?_, fun hz => ?_⟩]
    · rcases List.mem_cons.1 ((h z).1 (List.mem_cons_of_mem _ hz)) with e | h1
      · subst e; have := ha.1 _ hz; omega
      · exact h1
    · rcases List.mem_cons.1 ((h z).2 (List.mem_cons_of_mem _ hz)) with e | h1
      · subst e; have := hb.1 _ hz; omega
      · exact h1
theorem Rising.ext {a b : List Obj} (ha : Rising a) (hb : Rising b) (h : ∀ x, x ∈ a ↔ x ∈ b) : a = b := sorted_ext ha.pairwise hb.pairwise h

/-- l and more can be one store, and it is J -/
structure AddOk (l more J : List Obj) : Prop where
  left : checkStore l = 0
  many : more.length ≤ 12
  each : ∀ o ∈ more, checkObj o = 0
  cons : Cons l more
  whole : checkStore J = 0
  mem : ∀ x, x ∈ J ↔ x ∈ l ∨ x ∈ more

theorem add_zero {l more : List Obj} : addE l more = 0 ↔ AddOk l more (joined l more more.length) := by
  unfold addE
  by_cases h1 : checkStore l = 0
  · rw [if_neg (by simpa using h1)]
    by_cases h2 : 12 < more.length
    · rw [if_pos h2]; exact ⟨fun e => (by cases e), fun e => (by have := e.many; omega)⟩
    · rw [if_neg h2]
      have hr := checkStore_rising h1
      by_cases h3 : scan (fun k => checkObj (obj more k)) more.length = 0
      · rw [if_neg (by simpa using h3)]
        unfold withE
        have he : ∀ o ∈ more, checkObj o = 0 := fun o ho => by
          obtain ⟨i, hi, rfl⟩ := mem_obj ho
          exact scan_zero h3 i hi
        by_cases h4 : scan (joinErr l more) more.length = 0
        · rw [if_pos h4]
          refine ⟨fun e => ⟨h1, by omega, he, (joins_ok hr).1 h4, e, fun x => ?_⟩, fun e => e.whole⟩
          have := joined_mem (Nat.le_refl _) h4 x
          rwa [List.take_length] at this
        · rw [if_neg h4]; exact ⟨fun e => absurd e h4, fun e => absurd ((joins_ok hr).2 e.cons) h4⟩
      · rw [if_pos (by simpa using h3)]
        refine ⟨fun e => absurd e h3, fun e => absurd (scan_of_zero fun k hk => e.each _ (obj_mem hk)) h3⟩
  · rw [if_pos (by simpa using h1)]; exact ⟨fun e => absurd e h1, fun e => absurd e.left h1⟩

/-- whatever J is right and has just those -/
theorem add_of {l more J : List Obj} (h : AddOk l more J) : addE l more = 0 ∧ addL l more = J := by
  have hr := checkStore_rising h.left
  have h4 := (joins_ok hr).2 h.cons
  have hm := joined_mem (Nat.le_refl _) h4
  rw [List.take_length] at hm
  have e : joined l more more.length = J := (joined_rising hr more _).ext (checkStore_rising h.whole) fun x => by rw [hm, h.mem]
  have h0 : addE l more = 0 := add_zero.2 (by rw [e]; exact h)
  exact ⟨h0, by unfold addL; rw [if_pos h0, e]⟩
theorem add_ok {l more : List Obj} (h : addE l more = 0) : AddOk l more (addL l more) := by
  have := add_zero.1 h
  unfold addL; rw [if_pos h]; exact this
theorem addL_not {l more : List Obj} (h : addE l more ≠ 0) : addL l more = [] := by unfold addL; rw [if_neg h]

/-- IN WHATEVER ORDER -/
theorem add_turned {l more more' : List Obj} (hm : ∀ x, x ∈ more ↔ x ∈ more') (hl : more.length = more'.length) : (addE l more = 0 ↔ addE l more' = 0) ∧ addL l more = addL l more' := by
  have one : ∀ {a b : List Obj}, (∀ x, x ∈ a ↔ x ∈ b) → a.length = b.length → addE l a = 0 → addE l b = 0 ∧ addL l b = addL l a := fun {a b} hm hl h => by
    have k := add_ok h
    exact add_of ⟨k.left, by rw [← hl]; exact k.many, fun o ho => k.each o ((hm o).2 ho), fun x y hx hy e => k.cons x y (hx.imp id (hm x).2) (hy.imp id (hm y).2) e, k.whole, fun x => by rw [k.mem, hm]⟩
  refine ⟨⟨fun h => (one hm hl h).1, fun h => (one (fun x => (hm x).symm) hl.symm h).1⟩, ?_⟩
  by_cases h : addE l more = 0
  · exact (one hm hl h).2.symm
  · have h' : addE l more' ≠ 0 := fun e => h (one (fun x => (hm x).symm) hl.symm e).1
    rw [addL_not h, addL_not h']

/-- IN TWO PARTS OR ONE -/
theorem add_parts {l more : List Obj} (n : Nat) (h : addE l more = 0) (h' : addE l (more.take n) = 0) : addE (addL l (more.take n)) (more.drop n) = 0 ∧ addL (addL l (more.take n)) (more.drop n) = addL l more := by
  have k := add_ok h
  have k' := add_ok h'
  have hm : ∀ x, (x ∈ addL l (more.take n) ∨ x ∈ more.drop n) ↔ (x ∈ l ∨ x ∈ more) := fun x => by
    rw [k'.mem]
    constructor
    · rintro ((a | a) | a)
      · exact .inl a
      · exact .inr (List.mem_of_mem_take a)
      · exact .inr (List.mem_of_mem_drop a)
    · rintro (a | a)
      · exact .inl (.inl a)
      · rw [← List.take_append_drop n more, List.mem_append] at a
        rcases a with a | a
        · exact .inl (.inr a)
        · exact .inr a
  exact add_of ⟨k'.whole, by have := k.many; rw [List.length_drop]; omega, fun o ho => k.each o (List.mem_of_mem_drop ho), fun x y hx hy e => k.cons x y ((hm x).1 hx) ((hm y).1 hy) e, k.whole, fun x => by rw [k.mem, hm]⟩

theorem find_there {a : List Obj} (h : checkStore a = 0) {x : Obj} (hx : x ∈ a) : findE a x.id = 0 ∧ findO a x.id = x := by
  have h1 := (checkStore_rising h).isAt_mem hx
  have h0 : findE a x.id = 0 := by unfold findE; rw [if_neg (by simpa using h), if_pos h1.1]
  exact ⟨h0, by unfold findO; rw [if_pos h0, h1.2]⟩
theorem find_not {a : List Obj} (h : checkStore a = 0) {id : Int} (hx : ∀ x ∈ a, x.id ≠ id) : findE a id = 5 := by
  have h1 : isAt a id = false := by
    cases e : isAt a id
    · rfl
    · have := isAt_spec e
      exact absurd this.2 (hx _ (obj_mem this.1))
  unfold findE; rw [if_neg (by simpa using h), h1]; rfl

/-- NOTHING IS EVER LOST -/
theorem add_keeps {l more : List Obj} (h : addE l more = 0) {x : Obj} (hx : x ∈ l ∨ x ∈ more) : findE (addL l more) x.id = 0 ∧ findO (addL l more) x.id = x :=
  find_there (add_ok h).whole (((add_ok h).mem x).2 hx)
/-- NOTHING LINKS TO WHAT IS NOT THERE -/
theorem links_there {a : List Obj} (h : checkStore a = 0) {x : Obj} (hx : x ∈ a) {k : Nat} (hk : k < x.links.length) : findE a (nth x.links k) = 0 := by
  obtain ⟨i, hi, rfl⟩ := mem_obj hx
  obtain ⟨j, hj, hid, _⟩ := (right_of h).linked hi hk
  have := find_there h (obj_mem (l := a) (i := j) (by omega))
  rw [hid] at this; exact this.1
/-- added again nothing is other -/
theorem add_again {l more : List Obj} (h : addE l more = 0) : addE (addL l more) more = 0 ∧ addL (addL l more) more = addL l more := by
  have k := add_ok h
  have hm : ∀ x, (x ∈ addL l more ∨ x ∈ more) ↔ (x ∈ l ∨ x ∈ more) := fun x => by
    rw [k.mem]
    constructor
    · rintro (a | a)
      · exact a
      · exact .inr a
    · exact .inl
  exact add_of ⟨k.whole, k.many, k.each, fun x y hx hy e => k.cons x y ((hm x).1 hx) ((hm y).1 hy) e, k.whole, fun x => by rw [hm, k.mem]⟩
theorem addL_length (l more : List Obj) : (addL l more).length ≤ l.length + more.length := by
  unfold addL
  split
  · exact joined_length l more _
  · simp

theorem mem_take_obj {l : List Obj} {n : Nat} {x : Obj} (h : x ∈ l.take n) : ∃ i, i < n ∧ i < l.length ∧ obj l i = x := by
  obtain ⟨i, hi, rfl⟩ := mem_obj h
  rw [List.length_take] at hi
  exact ⟨i, by omega, by omega, by rw [obj_take (by omega)]⟩

/-- EACH BEGINNING OF A STORE IS ONE -/
theorem take_store {l : List Obj} (h : checkStore l = 0) (n : Nat) (hn : n ≤ l.length) : checkStore (l.take n) = 0 := by
  obtain ⟨h1, h2⟩ := checkStore_zero h
  have hlen : (l.take n).length = n := by rw [List.length_take]; omega
  refine checkStore_ok (by omega) (scan_of_zero fun k hk => ?_)
  rw [hlen] at hk
  have h0 := scan_zero h2 k (by omega)
  have e : objErr (l.take n) k = objErr l k := by
    unfold objErr
    rw [obj_take hk, List.take_take, show min k n = k by omega]
    by_cases hk0 : 0 < k
    · rw [obj_take (by omega)]
    · have : k = 0 := by omega
      subst this; simp
  rw [e]; exact h0
theorem part_find {l : List Obj} (h : checkStore l = 0) {n i : Nat} (hn : n ≤ l.length) (hi : i < l.length) :
    (i < n → findE (l.take n) (obj l i).id = 0 ∧ findO (l.take n) (obj l i).id = obj l i) ∧ (n ≤ i → findE (l.take n) (obj l i).id = 5) := by
  have ht := take_store h n hn
  refine ⟨fun hlt => ?_, fun hge => ?_⟩
  · have hm : obj l i ∈ l.take n := by
      have := obj_mem (l := l.take n) (i := i) (by rw [List.length_take]; omega)
      rwa [obj_take hlt] at this
    exact find_there ht hm
  · refine find_not ht fun x hx e => ?_
    obtain ⟨j, hj, hjl, rfl⟩ := mem_take_obj hx
    have := (checkStore_rising h) j i (by omega) hi
    omega
end Go.Proofs.YtdhoodloklgokaaGreatDoor
