
/- The plain law of refs: each name is of one commit; without one of them the others are right. No program here. -/
import Derived.Test.YtdhoodloklgokaaGreatDoorWalkB
import Derived.Test.YtdhoodloklgokaaGreatDoorRefsA
namespace Go.Proofs.YtdhoodloklgokaaGreatDoor
set_option linter.unusedVariables false
set_option linter.unusedSimpArgs false

theorem less_irrefl (x : List UInt8) : Op.bytesLess x x = false := by
  induction x with
  | nil => rfl
  | cons a x ih => simp [Op.bytesLess, ih]
theorem less_trans (x y z : List UInt8) (h1 : Op.bytesLess x y = true) (h2 : Op.bytesLess y z = true) : Op.bytesLess x z = true := by
  induction x generalizing y z with
  | nil =>
    cases y with
    | nil => simp [Op.bytesLess] at h1
    | cons b y => cases z with
      | nil => simp [Op.bytesLess] at h2
      | cons c z => simp [Op.bytesLess]
  | cons a x ih =>
    cases y with
    | nil => simp [Op.bytesLess] at h1
    | cons b y =>
      cases z with
      | nil => simp [Op.bytesLess] at h2
      | cons c z =>
        simp only [Op.bytesLess, Bool.or_eq_true, decide_eq_true_eq, Bool.and_eq_true, beq_iff_eq] at *
        rcases h1 with h1 | ⟨rfl, h1⟩
        · rcases h2 with h2 | ⟨rfl, h2⟩
          · left; simp only [UInt8.lt_iff_toNat_lt] at *; omega
          · exact .inl h1
        · rcases h2 with h2 | ⟨rfl, h2⟩
          · exact .inl h2
          · exact .inr ⟨rfl, ih y z h1 h2⟩

theorem strLt_irrefl (a : ByteArray) : strLt a a = false := less_irrefl _
theorem strLt_trans {a b c : ByteArray} (h1 : strLt a b = true) (h2 : strLt b c = true) : strLt a c = true := less_trans _ _ _ h1 h2

/-- what right refs give -/
structure RefsOk (l : List Rf) (objs : List Obj) : Prop where
  many : l.length ≤ 8
  name : ∀ i, i < l.length → nameErr (rf l i).name = 0
  up : ∀ i j, i < j → j < l.length → strLt (rf l i).name (rf l j).name = true
  commit : ∀ i, i < l.length → kindOf objs (rf l i).id = 3
  apart : ∀ i k, i < l.length → k < l.length → inPlace (rf l i).name (rf l k).name = false

theorem commitErr_zero {objs : List Obj} {id : Int} : commitErr objs id = 0 ↔ kindOf objs id = 3 := by
  unfold commitErr
  by_cases h0 : kindOf objs id = 0
  · rw [if_pos h0]; constructor
    · intro e; cases e
    · intro e; omega
  · rw [if_neg h0]
    by_cases h3 : kindOf objs id = 3
    · rw [if_pos h3]; simp [h3]
    · rw [if_neg h3]; constructor
      · intro e; cases e
      · intro e; exact absurd e h3

theorem refErr_zero {l : List Rf} {objs : List Obj} {i : Nat} : refErr l objs i = 0 ↔ nameErr (rf l i).name = 0 ∧ (0 < i → strLt (rf l (i - 1)).name (rf l i).name = true) ∧ kindOf objs (rf l i).id = 3 := by
  unfold refErr
  by_cases h1 : nameErr (rf l i).name = 0
  · rw [if_neg (by simp [h1])]
    by_cases h2 : 0 < i ∧ strLt (rf l (i - 1)).name (rf l i).name = false
    · rw [if_pos h2]
      constructor
      · intro e; cases e
      · rintro ⟨_, h, _⟩; rw [h h2.1] at h2; cases h2.2
    · rw [if_neg h2, commitErr_zero]
      constructor
      · intro h; refine ⟨h1, fun hi => ?_, h⟩
        cases h3 : strLt (rf l (i - 1)).name (rf l i).name
        · exact absurd ⟨hi, h3⟩ h2
        · rfl
      · rintro ⟨_, _, h⟩; exact h
  · rw [if_pos h1]
    constructor
    · intro e; exact absurd e h1
    · rintro ⟨e, _⟩; exact absurd e h1

theorem rightErr_zero {l : List Rf} {objs : List Obj} (h : rightErr l objs = 0) : RefsOk l objs := by
  unfold rightErr at h
  by_cases h8 : 8 < l.length
  · rw [if_pos h8] at h; cases h
  rw [if_neg h8] at h
  by_cases hs : scan (refErr l objs) l.length = 0
  · rw [if_neg (by simp [hs])] at h
    have hr := fun i hi => refErr_zero.1 (scan_zero hs i hi)
    refine ⟨by omega, fun i hi => (hr i hi).1, ?_, fun i hi => (hr i hi).2.2, fun i k hi hk => ?_⟩
    · intro i j hij
      induction j with
      | zero => omega
      | succ j ih =>
        intro hj
        have h1 := (hr (j + 1) hj).2.1 (by omega)
        simp only [Nat.add_sub_cancel] at h1
        by_cases e : i = j
        · subst e; exact h1
        · exact strLt_trans (ih (by omega) (by omega)) h1
    · have h1 := scan_zero (scan_zero h i hi) k hk
      unfold pairErr at h1
      cases e : inPlace (rf l i).name (rf l k).name
      · rfl
      · rw [e] at h1; cases h1
  · rw [if_pos hs] at h; exact absurd h hs

theorem rightErr_of {l : List Rf} {objs : List Obj} (h : RefsOk l objs) : rightErr l objs = 0 :=
  rightErr_ok h.many (scan_of_zero fun i hi => refErr_zero.2 ⟨h.name i hi, fun h0 => h.up (i - 1) i (by omega) hi, h.commit i hi⟩) (fun i k hi hk => h.apart i k hi hk)

theorem checkRefs_zero {l : List Rf} {objs : List Obj} : checkRefs l objs = 0 ↔ checkStore objs = 0 ∧ RefsOk l objs := by
  unfold checkRefs
  by_cases h : checkStore objs = 0
  · rw [if_neg (by simp [h])]
    exact ⟨fun h1 => ⟨h, rightErr_zero h1⟩, fun h1 => rightErr_of h1.2⟩
  · rw [if_pos h]
    exact ⟨fun h1 => absurd h1 h, fun h1 => absurd h1.1 h⟩

theorem RefsOk.ne {l : List Rf} {objs : List Obj} (h : RefsOk l objs) {i j : Nat} (hi : i < l.length) (hj : j < l.length) (hne : i ≠ j) : ((rf l i).name.toList == (rf l j).name.toList) = false := by
  rw [text_eq, decide_eq_false_iff_not]
  intro e
  rcases Nat.lt_or_ge i j with h1 | h1
  · have := h.up i j h1 hj; rw [e, strLt_irrefl] at this; cases this
  · have := h.up j i (by omega) hi; rw [e, strLt_irrefl] at this; cases this

def without (l : List Rf) (n : Nat) : List Rf := l.take n ++ l.drop (n + 1)
theorem without_length {l : List Rf} {n : Nat} (hn : n < l.length) : (without l n).length = l.length - 1 := by simp [without]; omega
theorem without_rf {l : List Rf} {n i : Nat} (hn : n < l.length) : rf (without l n) i = rf l (if i < n then i else i + 1) := by
  unfold rf at_ without
  simp only [List.getD_eq_getElem?_getD]
  by_cases h : i < n
  · rw [List.getElem?_append_left (by simp; omega), if_pos h, List.getElem?_take, if_pos h]
  · rw [List.getElem?_append_right (by simp; omega), if_neg h, List.getElem?_drop]
    congr 2
    simp; omega

theorem RefsOk.without {l : List Rf} {objs : List Obj} (h : RefsOk l objs) {n : Nat} (hn : n < l.length) : RefsOk (without l n) objs := by
  have hl := without_length hn
  refine ⟨by have := h.many; omega, fun i hi => ?_, fun i j hij hj => ?_, fun i hi => ?_, fun i k hi hk => ?_⟩
  · rw [without_rf hn]; exact h.name _ (by split <;> omega)
  · rw [without_rf hn, without_rf hn]; exact h.up _ _ (by split <;> split <;> omega) (by split <;> omega)
  · rw [without_rf hn]; exact h.commit _ (by split <;> omega)
  · rw [without_rf hn, without_rf hn]; exact h.apart _ _ (by split <;> omega) (by split <;> omega)

end Go.Proofs.YtdhoodloklgokaaGreatDoor
