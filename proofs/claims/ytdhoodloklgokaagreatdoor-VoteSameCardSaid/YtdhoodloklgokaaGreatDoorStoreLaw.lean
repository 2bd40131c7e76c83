
/- The plain law of stores: in whatever order objects come the store is the same; nothing is lost; each beginning is a store. No program here. -/
import Derived.Test.YtdhoodloklgokaaGreatDoorAddA
import Derived.Test.YtdhoodloklgokaaGreatDoorBase
namespace Go.Proofs.YtdhoodloklgokaaGreatDoor
set_option linter.unusedVariables false
set_option linter.unusedSimpArgs false

theorem obj_mem {l : List Obj} {i : Nat} (h : i < l.length) : obj l i ∈ l := at_mem h
theorem mem_obj {l : List Obj} {x : Obj} (h : x ∈ l) : ∃ i, i < l.length ∧ obj l i = x := by
  obtain ⟨i, hi, rfl⟩ := List.getElem_of_mem h
  exact ⟨i, hi, obj_lt hi⟩
theorem mem_ins {l : List Obj} {i : Nat} {o x : Obj} : x ∈ ins l i o ↔ x = o ∨ x ∈ l := by
  unfold ins
  rw [List.mem_append, List.mem_cons]
  constructor
  · rintro (h | h | h)
    · exact .inr (List.mem_of_mem_take h)
    · exact .inl h
    · exact .inr (List.mem_of_mem_drop h)
  · rintro (h | h)
    · exact .inr (.inl h)
    · rw [← List.take_append_drop i l, List.mem_append] at h
      rcases h with h | h
      · exact .inl h
      · exact .inr (.inr h)

theorem isAt_spec {l : List Obj} {id : Int} (h : isAt l id = true) : lo l id < l.length ∧ (obj l (lo l id)).id = id := by
  unfold isAt at h; simpa using h
theorem Rising.isAt_mem {l : List Obj} (h : Rising l) {x : Obj} (hx : x ∈ l) : isAt l x.id = true ∧ obj l (lo l x.id) = x := by
  obtain ⟨i, hi, rfl⟩ := mem_obj hx
  exact ⟨h.isAt_self hi, by rw [h.lo_self hi]⟩

theorem joinE_zero {l : List Obj} {o : Obj} : joinE l o = 0 ↔ (isAt l o.id = true → obj l (lo l o.id) = o) := by
  unfold joinE
  by_cases h : isAt l o.id = true ∧ sameObj (obj l (lo l o.id)) o = false
  · rw [if_pos h]
    constructor
    · intro e; cases e
    · intro e
      have := e h.1
      have h2 := h.2
      rw [this] at h2
      rw [(sameObj_iff o o).2 rfl] at h2; cases h2
  · rw [if_neg h]
    refine ⟨fun _ hat => ?_, fun _ => rfl⟩
    cases hs : sameObj (obj l (lo l o.id)) o
    · exact absurd ⟨hat, hs⟩ h
    · exact (sameObj_iff _ _).1 hs

theorem take_snoc_obj {l : List Obj} {n : Nat} (h : n < l.length) : l.take (n + 1) = l.take n ++ [obj l n] := by
  rw [List.take_succ_eq_append_getElem h, obj_lt h]

theorem joined_mem {l more : List Obj} : ∀ {n : Nat}, n ≤ more.length → scan (joinErr l more) n = 0 → ∀ x, x ∈ joined l more n ↔ x ∈ l ∨ x ∈ more.take n
  | 0, _, _, x => by simp [joined]
  | n + 1, hn, h, x => by
    have h0 : joinErr l more n = 0 := scan_zero h n (by omega)
    have hs : scan (joinErr l more) n = 0 := scan_of_zero fun k hk => scan_zero h k (by omega)
    have ih := joined_mem (by omega) hs
    rw [take_snoc_obj hn, List.mem_append, List.mem_singleton]
    show x ∈ joinL (joined l more n) (obj more n) ↔ _
    unfold joinL
    by_cases hat : isAt (joined l more n) (obj more n).id = true
    · rw [if_pos hat, ih x]
      have ho := (joinE_zero.1 h0) hat
      have hm : obj more n ∈ joined l more n := by rw [← ho]; exact obj_mem (isAt_spec hat).1
      have hm' := (ih _).1 hm
      constructor
      · rintro (a | a)
        · exact .inl a
        · exact .inr (.inl a)
      · rintro (a | a | a)
        · exact .inl a
        · exact .inr a
        · rw [a]; exact hm'
    · rw [if_neg hat, mem_ins, ih x]
      constructor
      · rintro (a | a | a)
        · exact .inr (.inr a)
        · exact .inl a
        · exact .inr (.inl a)
      · rintro (a | a | a)
        · exact .inr (.inl a)
        · exact .inr (.inr a)
        · exact .inl a

/-- no two of one id are unlike -/
def Cons (l more : List Obj) : Prop := ∀ x y, (x ∈ l ∨ x ∈ more) → (y ∈ l ∨ y ∈ more) → x.id = y.id → x = y

theorem joins_ok {l more : List Obj} (hr : Rising l) : scan (joinErr l more) more.length = 0 ↔ Cons l more := by
  constructor
  · intro h x y hx hy e
    have hm := joined_mem (Nat.le_refl _) h
    have hJ := joined_rising hr more more.length
    rw [List.take_length] at hm
    have h1 := hJ.isAt_mem ((hm x).2 hx)
    have h2 := hJ.isAt_mem ((hm y).2 hy)
    rw [← h1.2, e, h2.2]
  · intro hc
    have : ∀ n, n ≤ more.length → scan (joinErr l more) n = 0 := by
      intro n
      induction n with
      | zero => intro _; rfl
      | succ n ih =>
        intro hn
        have hs := ih (by omega)
        refine scan_next hs (joinE_zero.2 fun hat => ?_)
        have hm := joined_mem (Nat.le_of_succ_le hn) hs
        have h1 := isAt_spec hat
        have h2 := (hm _).1 (obj_mem h1.1)
        exact hc _ _ (h2.imp id List.mem_of_mem_take) (.inr (obj_mem hn)) h1.2
    exact this _ (Nat.le_refl _)

theorem Rising.pairwise {l : List Obj} (h : Rising l) : l.Pairwise (fun x y => x.id < y.id) := by
  rw [List.pairwise_iff_getElem]
  intro i j hi hj hij
  have := h i j hij hj
  rwa [obj_lt hi, obj_lt hj] at this
theorem sorted_ext : ∀ {a b : List Obj}, a.Pairwise (fun x y => x.id < y.id) → b.Pairwise (fun x y => x.id < y.id) → (∀ x, x ∈ a ↔ x ∈ b) → a = b
  | [], [], _, _, _ => rfl
  | [], y :: b, _, _, h => absurd ((h y).2 List.mem_cons_self) (by simp)
  | x :: a, [], _, _, h => absurd ((h x).1 List.mem_cons_self) (by simp)
  | x :: a, y :: b, ha, hb, h => by
    rw [List.pairwise_cons] at ha hb
    have e : x = y := by
      rcases List.mem_cons.1 ((h x).1 List.mem_cons_self) with e | h1
      · exact e
      · rcases List.mem_cons.1 ((h y).2 List.mem_cons_self) with e | h2
        · exact e.symm
        · have := hb.1 _ h1; have := ha.1 _ h2; omega
    subst e
    rw [sorted_ext ha.2 hb.2 fun z => ⟨fun hz => ?_, fun hz => ?_⟩]
    · rcases List.mem_cons.1 ((h z).1 (List.mem_cons_of_mem _ hz)) with e | h1
      · subst e; have := ha.1 _ hz; omega
      · exact h1
    · rcases List.mem_cons.1 ((h z).2 (List.mem_cons_of_mem _ hz)) with e | h1
      · subst e; have := hb.1 _ hz; omega
      · exact h1
theorem Rising.ext {a b : List Obj} (ha : Rising a) (hb : Rising b) (h : ∀ x, x ∈ a ↔ x ∈ b) : a = b := sorted_ext ha.pairwise hb.pairwise h

/-- l and more can be one store, and it is J -/
structure AddOk (l more J : List Obj) : Prop where
  left : checkStore l = 0
  many : more.length ≤ 12
  each : ∀ o ∈ more, checkObj o = 0
  cons : Cons l more
  whole : checkStore J = 0
  mem : ∀ x, x ∈ J ↔ x ∈ l ∨ x ∈ more

theorem add_zero {l more : List Obj} : addE l more = 0 ↔ AddOk l more (joined l more more.length) := by
  unfold addE
  by_cases h1 : checkStore l = 0
  · rw [if_neg (by simpa using h1)]
    by_cases h2 : 12 < more.length
    · rw [if_pos h2]; exact ⟨fun e => (by cases e), fun e => (by have := e.many; omega)⟩
    · rw [if_neg h2]
      have hr := checkStore_rising h1
      by_cases h3 : scan (fun k => checkObj (obj more k)) more.length = 0
      · rw [if_neg (by simpa using h3)]
        unfold withE
        have he : ∀ o ∈ more, checkObj o = 0 := fun o ho => by
          obtain ⟨i, hi, rfl⟩ := mem_obj ho
          exact scan_zero h3 i hi
        by_cases h4 : scan (joinErr l more) more.length = 0
        · rw [if_pos h4]
          refine ⟨fun e => ⟨h1, by omega, he, (joins_ok hr).1 h4, e, fun x => ?_⟩, fun e => e.whole⟩
          have := joined_mem (Nat.le_refl _) h4 x
          rwa [List.take_length] at this
        · rw [if_neg h4]; exact ⟨fun e => absurd e h4, fun e => absurd ((joins_ok hr).2 e.cons) h4⟩
      · rw [if_pos (by simpa using h3)]
        refine ⟨fun e => absurd e h3, fun e => absurd (scan_of_zero fun k hk => e.each _ (obj_mem hk)) h3⟩
  · rw [if_pos (by simpa using h1)]; exact ⟨fun e => absurd e h1, fun e => absurd e.left h1⟩

theorem add_ok {l more : List Obj} (h : addE l more = 0) : AddOk l more (addL l more) := by
  have := add_zero.1 h
  unfold addL; rw [if_pos h]; exact this
end Go.Proofs.YtdhoodloklgokaaGreatDoor
