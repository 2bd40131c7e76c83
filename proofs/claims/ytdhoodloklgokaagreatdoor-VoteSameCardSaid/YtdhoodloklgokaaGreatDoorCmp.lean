
/- Cmp: how two texts compare. No program here. -/
import Derived.Test.YtdhoodloklgokaaGreatDoorUpdP
import Derived.Lib.Bytealg
namespace Go.Proofs.YtdhoodloklgokaaGreatDoor
open Go.RowKit
set_option linter.unusedVariables false
set_option linter.unusedSimpArgs false

theorem compare_lt : ∀ (a b : List UInt8), Lib.compareBytes a b < 0 ↔ Op.bytesLess a b = true
  | [], [] => by simp [Lib.compareBytes, Op.bytesLess]
  | [], _ :: _ => by simp [Lib.compareBytes, Op.bytesLess]
  | _ :: _, [] => by simp [Lib.compareBytes, Op.bytesLess]
  | a :: xs, b :: ys => by
    have ih := compare_lt xs ys
    simp only [Lib.compareBytes, Op.bytesLess, Bool.or_eq_true, decide_eq_true_eq, Bool.and_eq_true, beq_iff_eq]
    by_cases h1 : a < b
    · simp [h1]
    · by_cases h2 : b < a
      · have h3 : ¬ a = b := by rintro rfl; exact h1 h2
        simp [h1, h2, h3]
      · have h3 : a = b := by
          apply UInt8.toNat_inj.1
          simp only [UInt8.lt_iff_toNat_lt] at *; omega
        simp [h3, ih]
/-- how two texts compare -/
def cmpS (a b : ByteArray) : Int := Lib.compareBytes a.data.toList b.data.toList
theorem cmpS_lt (a b : ByteArray) : cmpS a b < 0 ↔ strLt a b = true := by
  unfold cmpS strLt; rw [compare_lt, ByteArray.toList_eq, ByteArray.toList_eq]
theorem strLt_ntrans {a b c : ByteArray} (h1 : strLt a b = false) (h2 : strLt b c = false) : strLt a c = false := by
  cases h : strLt a c
  · rfl
  · by_cases e : a = b
    · subst e; rw [h] at h2; cases h2
    · have h3 : strLt b a = true := by
        cases e3 : strLt b a
        · exact absurd (strLt_tri h1 e3) e
        · rfl
      have h4 := less_trans _ _ _ h3 h
      unfold strLt at h2
      rw [h2] at h4; cases h4
end Go.Proofs.YtdhoodloklgokaaGreatDoor
