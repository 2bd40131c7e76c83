
/- Walks: the law ObjectLinks. -/
import Derived.Test.YtdhoodloklgokaaGreatDoorObjB
import Derived.Deep.Upon
namespace Go.Proofs.YtdhoodloklgokaaGreatDoor
open Go.RowKit
set_option linter.unusedVariables false
set_option linter.unusedSimpArgs false

theorem wp_append_run {P : Program} {o : Oper} {a : Act} {w w' : World} {K : Act → World → Prop} {Q : Exit → Act → World → Prop} (s x : Operand) (t : TypeId)
    (ho : o.op = .call { callee := .builtin .append, args := #[s, x], argTypes := #[t, t] }) (v u r : Value) (hs : a.eval s = v) (hx : a.eval x = u)
    (hr : (Builtin.append_ #[t, t] o.type #[v, u]).run P w = .ok r w') (h : K (a.put o.dst r) w') : o.wp P a w K Q := by
  unfold Oper.wp execOp
  simp only [ho, resolve, invoke, builtin, Sem.run_bind, Sem.run_pure, Result.andThen_ok, List.map_toArray, List.map_cons, List.map_nil, hs, hx, hr]
  exact h

theorem own_empty (x : World) (t : TypeId) (B : Nat) (hB : B ≤ x.heap.size) : (x.alloc (.cells #[] t)).ownsRow B t 1 (.slice (some ⟨x.heap.size, 0, none⟩) 0 0) 0 (([] : List Int).map (Value.int .i64)) :=
  ⟨rfl, .inr ⟨x.heap.size, 0, #[], rfl, hB, heap_alloc_new x _, Nat.le_refl _, by unfold maxLen; omega, rfl, rfl⟩⟩

/-- what is known of the world, and of what has been appended so far, on every way through the law's statement -/
structure Lk (R : World → Prop) (g0 : Nat) (mc : Array Value) (t0 : TypeId) (B : Nat) (x : World) : Prop where
  cls : In R x
  more : x.heap[g0]? = some (.cells mc t0 (0, 0))
  size : B ≤ x.heap.size
section
variable {R : World → Prop} {g0 B : Nat} {mc : Array Value} {t0 : TypeId} {x y : World}
theorem Lk.alloc (h : Lk R g0 mc t0 B x) (hRa : ∀ x o, In R x → In R (x.alloc o)) (o : Go.Obj) : Lk R g0 mc t0 B (x.alloc o) :=
  ⟨hRa _ _ h.cls, (Below.heap_alloc _ _ _ (lt_of_block h.more)).trans h.more, by have := h.size; simp; omega⟩
theorem Lk.grown {N : Nat} (h : Lk R g0 mc t0 B x) (hRg : ∀ (x y : World) (row : Option Nat), In R x → x.grownBy y row → (∀ k, row = some k → N ≤ k) → In R y) {g : Nat} (hg : x.grownBy y (some g)) (hN : N ≤ g) (hB : g0 < B) (hb : B ≤ g) : Lk R g0 mc t0 B y :=
  ⟨hRg _ _ _ h.cls hg (fun k hk => by cases hk; exact hN), (hg.block g0 (lt_of_block h.more) (fun e => by cases e; omega)).trans h.more, Nat.le_trans h.size hg.size⟩
end

theorem zero_law {o : Obj} (h : checkObj o = 0) (hn : o.links.length = 0) : (o.kind == 3) = false := by
  obtain ⟨h1, h2, h3, h4, h5⟩ := checkObj_ok h
  have hne : o.kind ≠ 3 := fun e => by
    unfold linksErr at h5
    rw [hn] at h5
    simp [scan, formBad, e, hn] at h5
  simpa using hne

end Go.Proofs.YtdhoodloklgokaaGreatDoor
