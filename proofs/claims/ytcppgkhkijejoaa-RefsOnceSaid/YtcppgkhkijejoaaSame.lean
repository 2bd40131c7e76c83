/- Plain: sameness. No program here. -/
import Derived.Test.YtcppgkhkijejoaaBytes
namespace Go.Proofs.Ytcppgkhkijejoaa
set_option linter.unusedVariables false

theorem all_next {p : Nat → Prop} {k : Nat} (h : ∀ j, j < k → p j) (hk : p k) : ∀ j, j < k + 1 → p j := fun j hj => by
  rcases Nat.lt_or_ge j k with h' | h'
  · exact h j h'
  · have e : j = k := by omega
    subst e; exact hk

def sameInts (xs ys : List Int) : Bool := decide (xs = ys)
theorem sameInts_len {xs ys : List Int} (h : xs.length ≠ ys.length) : sameInts xs ys = false := by
  simp only [sameInts, decide_eq_false_iff_not]; intro e; exact h (by rw [e])
theorem sameInts_at {xs ys : List Int} {k : Nat} (h : nth xs k ≠ nth ys k) : sameInts xs ys = false := by
  simp only [sameInts, decide_eq_false_iff_not]; intro e; exact h (by rw [e])
theorem sameInts_all {xs ys : List Int} (hl : xs.length = ys.length) (h : ∀ k, k < xs.length → nth xs k = nth ys k) : sameInts xs ys = true := by
  simp only [sameInts, decide_eq_true_eq]
  apply List.ext_getElem hl
  intro i h1 h2
  have := h i h1
  rwa [nth_lt h1, nth_lt h2] at this

theorem text_eq (a b : ByteArray) : (a.toList == b.toList) = decide (a = b) := by
  rw [ByteArray.toList_eq, ByteArray.toList_eq]
  by_cases h : a = b
  · subst h; simp
  · have h2 : ¬ (a.data.toList = b.data.toList) := fun e => h (by cases a; cases b; congr; exact Array.toList_inj.1 e)
    rw [decide_eq_false h]; exact beq_eq_false_iff_ne.2 h2

def sameObj (a b : Obj) : Bool := (a.id == b.id) && (a.kind == b.kind) && (a.text.toList == b.text.toList) && sameInts a.links b.links
theorem sameObj_iff (a b : Obj) : sameObj a b = true ↔ a = b := by
  unfold sameObj
  rw [text_eq]
  simp only [Bool.and_eq_true, beq_iff_eq, decide_eq_true_eq, sameInts]
  constructor
  · rintro ⟨⟨⟨h1, h2⟩, h3⟩, h4⟩; cases a; cases b; simp_all
  · rintro rfl; simp

end Go.Proofs.Ytcppgkhkijejoaa
