
/- Walks: refs moved: the search for a name, put, move, each, Raw, Apply. -/
import Derived.Test.YtjkbaallfkjmhaaGreatRowR
import Derived.Test.YtjkbaallfkjmhaaGreatCmp
import Derived.Test.YtjkbaallfkjmhaaGreatUpdA
import Derived.Test.YtjkbaallfkjmhaaGreatWalkB
import Derived.Test.YtjkbaallfkjmhaaGreatShelf
import Derived.Deep.RegionHeld3
namespace Go.Proofs.YtjkbaallfkjmhaaGreat
open Go.RowKit
set_option linter.unusedVariables false
set_option linter.unusedSimpArgs false

theorem loR_eq {l : List Rf} {s : ByteArray} {i : Nat} (hi : i ≤ l.length) (h1 : ∀ j, j < i → strLt (rf l j).name s = true) (h2 : i < l.length → strLt (rf l i).name s = false) : loR l s = i := by
  unfold loR
  induction l generalizing i with
  | nil => simp at hi; subst hi; rfl
  | cons x l ih =>
    cases i with
    | zero =>
      have := h2 (by simp)
      rw [List.takeWhile_cons]
      have e : rf (x :: l) 0 = x := rfl
      rw [e] at this
      rw [this]; rfl
    | succ i =>
      have := h1 0 (by omega)
      have e : rf (x :: l) 0 = x := rfl
      rw [e] at this
      rw [List.takeWhile_cons, this]
      simp only [if_true, List.length_cons]
      rw [ih (i := i) (by simpa using hi) (fun j hj => h1 (j + 1) (by omega)) (fun h => h2 (by simpa using h))]

/-- is the name there? -/
def isRB (l : List Rf) (s : ByteArray) : Bool := decide (loR l s < l.length) && (cmpS (rf l (loR l s)).name s == 0)

end Go.Proofs.YtjkbaallfkjmhaaGreat
