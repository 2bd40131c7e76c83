/- Memory, for the walks: what a slice value reads as (Sl, SlOf), stable facts on cells, and small laws on Below. No program here. -/
import Derived.WalkKit
import Derived.WalkSpells
import Derived.WalkLawsBesides
import Derived.Lib.Hide
import Derived.Outline
import Derived.Deep.RegionHeld3
import Derived.Deep.QuietTactic
import Derived.BigQuiet
import Derived.Deep.DrawnRows
import Derived.Deep.LoopGhost
import Derived.Maps.AppendAt
namespace Go.Proofs.Ytcppgkhkijejoaa
open Go.RowKit
set_option linter.unusedVariables false
set_option linter.unusedSimpArgs false

theorem below_alloc (w : World) : ∀ (x : World) (o : Go.Obj), Below w.heap.size w x → Below w.heap.size w (x.alloc o) := fun _ o h => h.alloc h.size o
theorem below_drew (w : World) : ∀ (x : World), Below w.heap.size w x → Below w.heap.size w x.drew := fun _ h => h.drew
theorem below_set (w : World) : ∀ (x : World) (a : Addr) (v : Value), w.heap.size ≤ a.block → Below w.heap.size w x → Below w.heap.size w (x.setCell a v) := fun _ _ v ha h => h.setCell ha v
theorem below_next {w x y : World} (h : Below w.heap.size w x) (h' : Below x.heap.size x y) : Below w.heap.size w y := h.trans (h'.mono h.size)
theorem below_drewN (w : World) : ∀ (x : World) (n : Nat), Below w.heap.size w x → Below w.heap.size w (x.drewN n) := fun _ _ h => ⟨h.os, h.tape, h.output, h.size, h.block⟩

/-- a cell that is there stays as it is -/
theorem below_cell {w x : World} {a : Addr} {v : Value} (h : Below w.heap.size w x) (hc : w.cell? a = some v) : x.cell? a = some v :=
  (h.cell (World.block_lt_of_cell? w a hc)).trans hc

/-- a contract 'e = .returned v ∧ w = w'' inside a region that draws -/
theorem quiet_same {P : Program} {f : FuncId} {args : Array Value} {w : World} {n : Nat} {v : Value}
    (h : Calls P f args (w.drewN n) fun e w' => e = .returned v ∧ w.drewN n = w') : Calls P f args (w.drewN n) fun e w'' => e = .returned v ∧ ∃ m, w'' = w.drewN m :=
  h.mono fun _ _ ⟨he, hm⟩ => ⟨he, n, hm.symm⟩

theorem wrap_in {n : Int} (h : -9223372036854775808 ≤ n ∧ n ≤ 9223372036854775807) : IntKind.i64.wrap n = n := by
  rw [IntKind.wrap_i64]; omega

def I64 (n : Int) : Prop := -9223372036854775808 ≤ n ∧ n ≤ 9223372036854775807

/-- a slice value v of n elements of sz cells and bts bytes each; the cells of element i are cs i; they lie in a block of S -/
def Sl (S : Nat → Prop) (w : World) (v : Value) (sz bts n : Nat) (cs : Nat → List Value) : Prop :=
  ∃ a cap, v = .slice a n cap ∧ n ≤ cap ∧ cap ≤ 9223372036854775807 ∧ n * bts ≤ 140737488351232 ∧
    (0 < n → ∃ b off, a = some ⟨b, off, none⟩ ∧ S b ∧ ∀ i, i < n → ∀ j u, (cs i)[j]? = some u → w.cell? ⟨b, off + i * sz + j, none⟩ = some u)

theorem Sl.below {S : Nat → Prop} {w w' : World} {v : Value} {sz bts n : Nat} {cs : Nat → List Value} (h : Sl S w v sz bts n cs) (hb : Below w.heap.size w w') : Sl S w' v sz bts n cs := by
  obtain ⟨a, cap, hv, h1, h2, h3, h4⟩ := h
  refine ⟨a, cap, hv, h1, h2, h3, fun hn => ?_⟩
  obtain ⟨b, off, ha, hS, hc⟩ := h4 hn
  exact ⟨b, off, ha, hS, fun i hi j u hu => below_cell hb (hc i hi j u hu)⟩

theorem Sl.weaken {S S' : Nat → Prop} {w : World} {v : Value} {sz bts n : Nat} {cs : Nat → List Value} (h : Sl S w v sz bts n cs) (hs : ∀ b, S b → S' b) : Sl S' w v sz bts n cs := by
  obtain ⟨a, cap, hv, h1, h2, h3, h4⟩ := h
  refine ⟨a, cap, hv, h1, h2, h3, fun hn => ?_⟩
  obtain ⟨b, off, ha, hS, hc⟩ := h4 hn
  exact ⟨b, off, ha, hs _ hS, hc⟩

/-- blocks of S hold in w' what they held in w -/
def SameOn (S : Nat → Prop) (w w' : World) : Prop := ∀ b, S b → w'.heap[b]? = w.heap[b]?

theorem Sl.same {S : Nat → Prop} {w w' : World} {v : Value} {sz bts n : Nat} {cs : Nat → List Value} (h : Sl S w v sz bts n cs) (hs : SameOn S w w') : Sl S w' v sz bts n cs := by
  obtain ⟨a, cap, hv, h1, h2, h3, h4⟩ := h
  refine ⟨a, cap, hv, h1, h2, h3, fun hn => ?_⟩
  obtain ⟨b, off, ha, hS, hc⟩ := h4 hn
  exact ⟨b, off, ha, hS, fun i hi j u hu => (World.cell?_of_block (a := ⟨b, _, none⟩) (hs b hS)).trans (hc i hi j u hu)⟩

/-- element i of a list; a plain function, which the walk does not open -/
def at_ {α : Type} (d : α) (l : List α) (i : Nat) : α := l.getD i d
theorem at_lt {α : Type} {d : α} {l : List α} {i : Nat} (h : i < l.length) : at_ d l i = l[i] := by simp [at_, List.getD_eq_getElem?_getD, h]
theorem at_mem {α : Type} {d : α} {l : List α} {i : Nat} (h : i < l.length) : at_ d l i ∈ l := by rw [at_lt h]; exact List.getElem_mem h

/-- w' is w but for blocks of T, and new ones -/
structure Upd (T : Nat → Prop) (w w' : World) : Prop where
  os : w'.os = w.os
  tape : w'.tape = w.tape
  output : w'.output = w.output
  size : w.heap.size ≤ w'.heap.size
  block : ∀ b, b < w.heap.size → ¬ T b → w'.heap[b]? = w.heap[b]?

theorem Upd.refl (T : Nat → Prop) (w : World) : Upd T w w := ⟨rfl, rfl, rfl, Nat.le_refl _, fun _ _ _ => rfl⟩
theorem Upd.trans {T T1 : Nat → Prop} {a b c : World} (h : Upd T a b) (k : Upd T1 b c) (hT : ∀ x, x < a.heap.size → T1 x → T x) : Upd T a c :=
  ⟨k.os.trans h.os, k.tape.trans h.tape, k.output.trans h.output, Nat.le_trans h.size k.size,
    fun x hx hn => (k.block x (Nat.lt_of_lt_of_le hx h.size) (fun ht => hn (hT x hx ht))).trans (h.block x hx hn)⟩
theorem Upd.alloc {T : Nat → Prop} {a w : World} (h : Upd T a w) (o : Go.Obj) : Upd T a (w.alloc o) :=
  h.trans (T1 := fun _ => False) ⟨rfl, rfl, rfl, by simp, fun k hk _ => Below.heap_alloc _ _ _ hk⟩ (fun _ _ hf => hf.elim)
theorem Upd.drew {T : Nat → Prop} {a w : World} (h : Upd T a w) : Upd T a w.drew := ⟨h.os, h.tape, h.output, h.size, h.block⟩
theorem Upd.setCell {T : Nat → Prop} {a w : World} (h : Upd T a w) {p : Addr} (hp : p.block < a.heap.size → T p.block) (u : Value) : Upd T a (w.setCell p u) :=
  h.trans (T1 := fun b => b = p.block) ⟨rfl, rfl, rfl, by simp [World.setCell], fun k hk hn => Below.heap_setCell _ _ _ _ hn⟩ (fun x hx e => by subst e; exact hp hx)
theorem Upd.grown {T : Nat → Prop} {a w w' : World} {row : Option Nat} (h : Upd T a w) (hg : w.grownBy w' row) (hr : ∀ k, row = some k → k < a.heap.size → T k) : Upd T a w' :=
  h.trans (T1 := fun b => row = some b) ⟨hg.os, hg.tape, hg.output, hg.size, fun k hk hn => hg.block k hk (fun e => hn e.symm)⟩ (fun x hx e => hr x e hx)
theorem Upd.below {T : Nat → Prop} {B : Nat} {w w' : World} (h : Upd T w w') (hB : B ≤ w.heap.size) (hT : ∀ b, T b → B ≤ b) : Below B w w' :=
  ⟨h.os, h.tape, h.output, h.size, fun k hk => h.block k (by omega) (fun ht => by have := hT k ht; omega)⟩
theorem Upd.weaken {T T' : Nat → Prop} {w w' : World} (h : Upd T w w') (hT : ∀ b, b < w.heap.size → T b → T' b) : Upd T' w w' :=
  ⟨h.os, h.tape, h.output, h.size, fun b hb hn => h.block b hb (fun ht => hn (hT b hb ht))⟩
theorem Upd.cell {T : Nat → Prop} {w w' : World} (h : Upd T w w') {p : Addr} {v : Value} (hc : w.cell? p = some v) (hT : ¬ T p.block) : w'.cell? p = some v :=
  (World.cell?_of_block (h.block _ (World.block_lt_of_cell? w p hc) hT)).trans hc
theorem upd_of_below {B : Nat} {w w' : World} (h : Below B w w') : Upd (fun b => B ≤ b) w w' :=
  ⟨h.os, h.tape, h.output, h.size, fun b _ hn => h.block b (by omega)⟩

/-- A class of worlds that come behind w: closed under all that makes new memory alone. It is handed to a walk as a variable R: its facts are 'for every x of R'. ('In': the walk takes no fact whose head is a variable.) -/
def In (R : World → Prop) (x : World) : Prop := R x
structure Cls (w : World) (R : World → Prop) : Prop where
  below : ∀ x, In R x → Below w.heap.size w x
  alloc : ∀ x o, In R x → In R (x.alloc o)
  drew : ∀ x, In R x → In R x.drew
  drewN : ∀ x n, In R x → In R (x.drewN n)
  next : ∀ x y, In R x → Below x.heap.size x y → In R y

theorem cls_of (w w1 : World) (N : Nat) (hN : w.heap.size ≤ N) (h1 : N ≤ w1.heap.size) (hb : Below w.heap.size w w1) : Cls w (fun x => Below N w1 x) where
  below x h := hb.trans (Below.mono h hN)
  alloc x o h := Below.alloc h (Nat.le_trans h1 (Below.size h)) o
  drew x h := Below.drew h
  drewN x n h := Below.trans h (⟨rfl, rfl, rfl, Nat.le_refl _, fun _ _ => rfl⟩ : Below N x (x.drewN n))
  next x y h h' := Below.trans h (h'.mono (Nat.le_trans h1 (Below.size h)))

/-- the plain class: all that comes behind w -/
theorem cls_plain (w : World) : ∃ R : World → Prop, Cls w R ∧ In R w ∧ (∀ x, Below w.heap.size w x → In R x) :=
  ⟨_, cls_of w w _ (Nat.le_refl _) (Nat.le_refl _) (Below.refl _ _), Below.refl _ _, fun _ h => h⟩

/-- behind a new block of cells, which nobody writes any more -/
theorem cls_box (w : World) (cs : Array Value) (t : TypeId) : ∃ R : World → Prop, Cls w R ∧ In R (w.alloc (.cells cs t)) ∧ ∀ j v, cs[j]? = some v → ∀ x, In R x → x.cell? ⟨w.heap.size, j, none⟩ = some v := by
  refine ⟨_, cls_of w (w.alloc (.cells cs t)) (w.heap.size + 1) (by omega) (by simp) ((Below.refl _ _).alloc (Nat.le_refl _) _), Below.refl _ _, fun j v hv x hx => ?_⟩
  rw [Below.cell hx (p := ⟨w.heap.size, j, none⟩) (by simp)]
  rw [World.cell?_alloc_at _ _ _ _ rfl]; exact hv

theorem cls_box4 (w : World) (v0 v1 v2 v3 : Value) (t : TypeId) : ∃ R : World → Prop, Cls w R ∧ In R (w.alloc (.cells #[v0, v1, v2, v3] t)) ∧
    (∀ x, In R x → x.cell? ⟨w.heap.size, 0, none⟩ = some v0) ∧ (∀ x, In R x → x.cell? ⟨w.heap.size, 1, none⟩ = some v1) ∧
    (∀ x, In R x → x.cell? ⟨w.heap.size, 2, none⟩ = some v2) ∧ (∀ x, In R x → x.cell? ⟨w.heap.size, 3, none⟩ = some v3) :=
  let ⟨R, hR, h1, h⟩ := cls_box w #[v0, v1, v2, v3] t
  ⟨R, hR, h1, h 0 v0 rfl, h 1 v1 rfl, h 2 v2 rfl, h 3 v3 rfl⟩

end Go.Proofs.Ytcppgkhkijejoaa
