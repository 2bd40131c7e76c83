
/- Walks: the law WalkBehind, and its plain law. -/
import Derived.Test.YtdhoodloklgokaaGreatDoorWalkB
namespace Go.Proofs.YtdhoodloklgokaaGreatDoor
open Go.RowKit
set_option linter.unusedVariables false
set_option linter.unusedSimpArgs false

theorem thereErr_two {l : List Obj} {a b : Int} : thereErr l [a, b] = 0 ↔ checkStore l = 0 ∧ kindOf l a ≠ 0 ∧ kindOf l b ≠ 0 := by
  constructor
  · intro h
    obtain ⟨h1, h2⟩ := there_zero h
    exact ⟨h1, h2 a (by simp), h2 b (by simp)⟩
  · rintro ⟨h1, h2, h3⟩
    unfold thereErr
    rw [if_neg (by simp [h1])]
    have : ([a, b].any fun x => kindOf l x == 0) = false := by simp [h2, h3]
    rw [this]; rfl

theorem behindErr_zero {l : List Obj} {a b : Int} : behindErr l a b = 0 ↔ checkStore l = 0 ∧ kindOf l a = 3 ∧ kindOf l b = 3 := by
  unfold behindErr
  by_cases h : thereErr l [a, b] = 0
  · rw [if_neg (by simp [h])]
    obtain ⟨h1, h2, h3⟩ := thereErr_two.1 h
    by_cases hk : kindOf l a ≠ 3 ∨ kindOf l b ≠ 3
    · rw [if_pos hk]
      constructor
      · intro e; cases e
      · rintro ⟨_, g1, g2⟩; rcases hk with hk | hk; exact absurd g1 hk; exact absurd g2 hk
    · rw [if_neg hk]
      constructor
      · intro _; exact ⟨h1, by omega, by omega⟩
      · intro _; rfl
  · rw [if_pos h]
    constructor
    · intro e; exact absurd e h
    · rintro ⟨h1, h2, h3⟩
      exact absurd (thereErr_two.2 ⟨h1, by omega, by omega⟩) h

theorem behindRes_err {l : List Obj} {a b : Int} (h : behindErr l a b ≠ 0) : behindRes l a b = false := by unfold behindRes; rw [if_neg h]
theorem behindRes_ok {l : List Obj} {a b : Int} (h : behindErr l a b = 0) : behindRes l a b = behindB l a b := by unfold behindRes; rw [if_pos h]

theorem behindB_iff {l : List Obj} (hR : Right l) {a b : Int} (ha : kindOf l a ≠ 0) (hb : kindOf l b ≠ 0) : behindB l a b = true ↔ Rch l true (lo l b) (lo l a) := by
  obtain ⟨_, p2, p3, p4, _⟩ := hR.rising.place ha
  obtain ⟨_, q2, _, q4, _⟩ := hR.rising.place hb
  unfold behindB
  rw [p3, show ((lo l a : Int)).toNat = lo l a from rfl, reach_iff hR p2]
  constructor
  · rintro ⟨i, hi, ht, hr⟩
    have hid : (obj l i).id = b := by
      unfold tipB at ht
      simp only [List.any_cons, List.any_nil, Bool.or_false, beq_iff_eq] at ht
      exact ht.symm
    have : i = lo l b := hR.rising.inj hi q2 (hid.trans q4.symm)
    subst this; exact hr
  · intro hr
    refine ⟨lo l b, q2, ?_, hr⟩
    unfold tipB
    simp [q4]

theorem behind_law {l : List Obj} {a b c : Int} (h : behindErr l a b = 0) :
    behindErr l b a = 0 ∧ behindErr l a a = 0 ∧ behindRes l a a = true ∧ (behindRes l a b = true → behindRes l b a = true → a = b) ∧
      (behindErr l b c = 0 → behindErr l a c = 0 ∧ (behindRes l a b = true → behindRes l b c = true → behindRes l a c = true)) := by
  obtain ⟨h1, h2, h3⟩ := behindErr_zero.1 h
  have hR := right_of h1
  have e1 : behindErr l b a = 0 := behindErr_zero.2 ⟨h1, h3, h2⟩
  have e2 : behindErr l a a = 0 := behindErr_zero.2 ⟨h1, h2, h2⟩
  have ka : kindOf l a ≠ 0 := by omega
  have kb : kindOf l b ≠ 0 := by omega
  obtain ⟨_, p2, _, p4, _⟩ := hR.rising.place ka
  obtain ⟨_, q2, _, q4, _⟩ := hR.rising.place kb
  refine ⟨e1, e2, ?_, ?_, ?_⟩
  · rw [behindRes_ok e2, behindB_iff hR ka ka]; exact .refl _
  · rw [behindRes_ok h, behindRes_ok e1, behindB_iff hR ka kb, behindB_iff hR kb ka]
    intro g1 g2
    have := hR.rch_le q2 g1
    have := hR.rch_le p2 g2
    have e : lo l a = lo l b := by omega
    rw [← p4, ← q4, e]
  · intro h4
    obtain ⟨_, _, h5⟩ := behindErr_zero.1 h4
    have kc : kindOf l c ≠ 0 := by omega
    have e3 : behindErr l a c = 0 := behindErr_zero.2 ⟨h1, h2, h5⟩
    refine ⟨e3, ?_⟩
    rw [behindRes_ok h, behindRes_ok h4, behindRes_ok e3, behindB_iff hR ka kb, behindB_iff hR kb kc, behindB_iff hR ka kc]
    intro g1 g2
    exact g2.trans g1

theorem behind_sym {l : List Obj} {a b : Int} (h : behindErr l a b ≠ 0) : behindErr l b a ≠ 0 := fun e => h (behind_law (c := a) e).1

end Go.Proofs.YtdhoodloklgokaaGreatDoor
