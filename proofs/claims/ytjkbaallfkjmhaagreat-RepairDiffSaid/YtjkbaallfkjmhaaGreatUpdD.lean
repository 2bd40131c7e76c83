
/- Walks: refs moved: each, Raw, Apply; the reference's IdOf, with, MovedOf, ApplyOf. -/
import Derived.Test.YtjkbaallfkjmhaaGreatUpdC
import Derived.Laws.StructEq
namespace Go.Proofs.YtjkbaallfkjmhaaGreat
open Go.RowKit
set_option linter.unusedVariables false
set_option linter.unusedSimpArgs false

/-- what a function value does with the updates of a list, one after the other -/
structure DoesU (g : Nat) (f : Array Value) (l : List Mv) (w0 : World) (I : Nat → World → Prop) (err : Nat → Int) : Prop where
  enter : ∀ args w, (callFunc g args).run Tryz.prog w = .ok (.enter g args) w
  below : ∀ k x, I k x → Below w0.heap.size w0 x
  next : ∀ k x y, I k x → Below x.heap.size x y → I k y
  step : ∀ k x, k < l.length → scan err k = 0 → I k x →
    Calls Tryz.prog g (f ++ #[.agg #[.string (mv l k).name, .int .i64 (mv l k).old, .int .i64 (mv l k).new]]) x fun e w' => e = .returned (.int .i64 (err k)) ∧ Below w0.heap.size w0 w' ∧ (err k = 0 → I (k + 1) w')

/-- refs come back, in new memory, and what is wrong -/
def RetRefsE (w w' : World) (e : Ending) (l : List Rf) (c : Int) : Prop := ∃ v, e = .returned (.tuple #[v, .int .i64 c]) ∧ RefsV (fun b => w.heap.size ≤ b) w' v l ∧ Below w.heap.size w w'

/-- refs come back, in new memory -/
def RetRefsN (w w' : World) (e : Ending) (l : List Rf) : Prop := ∃ v, e = .returned v ∧ RefsV (fun b => w.heap.size ≤ b) w' v l ∧ Below w.heap.size w w'

theorem wOut_length (l : List Rf) (s : ByteArray) (id : Int) : ∀ k, (wOut l s id k).length ≤ 2 * k
  | 0 => Nat.le_refl _
  | k + 1 => by
    have := wOut_length l s id k
    rw [wOut]
    simp only [List.length_append]
    have h1 : (if !wPut l s id k && strLt s (rf l k).name then [(⟨s, id⟩ : Rf)] else []).length ≤ 1 := by split <;> simp
    have h2 : (if (rf l k).name.toList == s.toList then [] else [rf l k]).length ≤ 1 := by split <;> simp
    omega

end Go.Proofs.YtjkbaallfkjmhaaGreat
