
/- Base: Mem, Rep, Pure, Mem2, Rep2, Bytes, Same, Str, Raw, StoreP, WalkP, RefsP, Drawn, Flow, Keep. -/
import Derived.WalkKit
import Derived.WalkSpells
import Derived.WalkLawsBesides
import Derived.Lib.Hide
import Derived.Outline
import Derived.Deep.RegionHeld3
import Derived.Deep.QuietTactic
import Derived.BigQuiet
import Derived.Deep.DrawnRows
import Derived.Deep.LoopGhost
import Derived.Maps.AppendAt
import Derived.Laws.BytesArg
import Derived.Lib.AppendStr
import Derived.Lib.QuietBelow
import Derived.Laws.Strings3
import Derived.Lib.Strings
namespace Go.Proofs.YtjdgpgfiomnjkaaGreatDoor
open Go.RowKit
set_option linter.unusedVariables false
set_option linter.unusedSimpArgs false
theorem below_alloc (w : World) : ∀ (x : World) (o : Go.Obj), Below w.heap.size w x → Below w.heap.size w (x.alloc o) := fun _ o h => h.alloc h.size o
theorem below_drew (w : World) : ∀ (x : World), Below w.heap.size w x → Below w.heap.size w x.drew := fun _ h => h.drew
theorem below_next {w x y : World} (h : Below w.heap.size w x) (h' : Below x.heap.size x y) : Below w.heap.size w y := h.trans (h'.mono h.size)
theorem below_drewN (w : World) : ∀ (x : World) (n : Nat), Below w.heap.size w x → Below w.heap.size w (x.drewN n) := fun _ _ h => ⟨h.os, h.tape, h.output, h.size, h.block⟩
theorem below_cell {w x : World} {a : Addr} {v : Value} (h : Below w.heap.size w x) (hc : w.cell? a = some v) : x.cell? a = some v :=
 (h.cell (World.block_lt_of_cell? w a hc)).trans hc
theorem quiet_same {P : Program} {f : FuncId} {args : Array Value} {w : World} {n : Nat} {v : Value}
  (h : Calls P f args (w.drewN n) fun e w' => e = .returned v ∧ w.drewN n = w') : Calls P f args (w.drewN n) fun e w'' => e = .returned v ∧ ∃ m, w'' = w.drewN m :=
 h.mono fun _ _ ⟨he, hm⟩ => ⟨he, n, hm.symm⟩
theorem wrap_in {n : Int} (h : -9223372036854775808 ≤ n ∧ n ≤ 9223372036854775807) : IntKind.i64.wrap n = n := by
 rw [IntKind.wrap_i64]; omega
def I64 (n : Int) : Prop := -9223372036854775808 ≤ n ∧ n ≤ 9223372036854775807
class Ghost where
 frz : Nat → Prop
set_option linter.unusedSectionVars false
variable [Ghost]
def Fre (w : World) (b off m : Nat) : Prop := Ghost.frz b ∨ (b < w.heap.size ∧ ∀ k, k < m → w.frozen? ⟨b, off + k, none⟩ = false)
def SF (S : Nat → Prop) (w : World) (b off m : Nat) : Prop := S b ∧ Fre w b off m
theorem Fre.same {w w' : World} {b off m : Nat} (h : Fre w b off m) (hb : b < w.heap.size → w'.heap[b]? = w.heap[b]?) : Fre w' b off m := by
 rcases h with h | ⟨hl, h⟩
 ·exact .inl h
 ·have e := hb hl
  refine .inr ⟨?_, fun k hk => ?_⟩
  ·rcases Nat.lt_or_ge b w'.heap.size with h1 | h1
   ·exact h1
   ·rw [Array.getElem?_eq_none h1, Array.getElem?_eq_getElem hl] at e; cases e
  ·have := h k hk
   unfold World.frozen? at this ⊢
   rw [show w'.heap[(⟨b, off + k, none⟩ : Addr).block]? = w.heap[(⟨b, off + k, none⟩ : Addr).block]? from e]
   exact this
theorem Fre.below {w w' : World} {b off m : Nat} (h : Fre w b off m) (hb : Below w.heap.size w w') : Fre w' b off m := h.same fun hl => hb.block b hl
theorem Fre.of_block {w : World} {b off m : Nat} {cs : Array Value} {t : TypeId} (h : w.heap[b]? = some (.cells cs t (0, 0))) : Fre w b off m :=
 .inr ⟨(Array.getElem?_eq_some_iff.1 h).1, fun k _ => by simp [World.frozen?, h]⟩
theorem Fre.sub {w : World} {b off m off' m' : Nat} (h : Fre w b off m) (h1 : off ≤ off') (h2 : off' + m' ≤ off + m) : Fre w b off' m' :=
 h.imp id fun ⟨a, f⟩ => ⟨a, fun k hk => by have := f (off' + k - off) (by omega); rwa [show off + (off' + k - off) = off' + k by omega] at this⟩
theorem SF.below {S : Nat → Prop} {w w' : World} {b off m : Nat} (h : SF S w b off m) (hb : Below w.heap.size w w') : SF S w' b off m := ⟨h.1, h.2.below hb⟩
def Sl (S : Nat → Prop) (w : World) (v : Value) (sz bts n : Nat) (cs : Nat → List Value) : Prop :=
 ∃ a cap, v = .slice a n cap ∧ n ≤ cap ∧ cap ≤ 9223372036854775807 ∧ n * bts ≤ 140737488351232 ∧
  (0 < n → ∃ b off, a = some ⟨b, off, none⟩ ∧ SF S w b off (n * sz) ∧ ∀ i, i < n → ∀ j u, (cs i)[j]? = some u → w.cell? ⟨b, off + i * sz + j, none⟩ = some u)
theorem Sl.below {S : Nat → Prop} {w w' : World} {v : Value} {sz bts n : Nat} {cs : Nat → List Value} (h : Sl S w v sz bts n cs) (hb : Below w.heap.size w w') : Sl S w' v sz bts n cs := by
 obtain ⟨a, cap, hv, h1, h2, h3, h4⟩ := h
 refine ⟨a, cap, hv, h1, h2, h3, fun hn => ?_⟩
 obtain ⟨b, off, ha, hS, hc⟩ := h4 hn
 exact ⟨b, off, ha, hS.below hb, fun i hi j u hu => below_cell hb (hc i hi j u hu)⟩
theorem Sl.weaken {S S' : Nat → Prop} {w : World} {v : Value} {sz bts n : Nat} {cs : Nat → List Value} (h : Sl S w v sz bts n cs) (hs : ∀ b, S b → S' b) : Sl S' w v sz bts n cs := by
 obtain ⟨a, cap, hv, h1, h2, h3, h4⟩ := h
 refine ⟨a, cap, hv, h1, h2, h3, fun hn => ?_⟩
 obtain ⟨b, off, ha, hS, hc⟩ := h4 hn
 exact ⟨b, off, ha, ⟨hs _ hS.1, hS.2⟩, hc⟩
def SameOn (S : Nat → Prop) (w w' : World) : Prop := ∀ b, S b → w'.heap[b]? = w.heap[b]?
theorem Sl.same {S : Nat → Prop} {w w' : World} {v : Value} {sz bts n : Nat} {cs : Nat → List Value} (h : Sl S w v sz bts n cs) (hs : SameOn S w w') : Sl S w' v sz bts n cs := by
 obtain ⟨a, cap, hv, h1, h2, h3, h4⟩ := h
 refine ⟨a, cap, hv, h1, h2, h3, fun hn => ?_⟩
 obtain ⟨b, off, ha, hS, hc⟩ := h4 hn
 exact ⟨b, off, ha, ⟨hS.1, hS.2.same fun _ => hs b hS.1⟩, fun i hi j u hu => (World.cell?_of_block (a := ⟨b, _, none⟩) (hs b hS.1)).trans (hc i hi j u hu)⟩
def at_ {α : Type} (d : α) (l : List α) (i : Nat) : α := l.getD i d
theorem at_lt {α : Type} {d : α} {l : List α} {i : Nat} (h : i < l.length) : at_ d l i = l[i] := by simp [at_, List.getD_eq_getElem?_getD, h]
theorem at_mem {α : Type} {d : α} {l : List α} {i : Nat} (h : i < l.length) : at_ d l i ∈ l := by rw [at_lt h]; exact List.getElem_mem h
structure Upd (T : Nat → Prop) (w w' : World) : Prop where
 os : w'.os = w.os
 tape : w'.tape = w.tape
 output : w'.output = w.output
 size : w.heap.size ≤ w'.heap.size
 block : ∀ b, b < w.heap.size → ¬ T b → w'.heap[b]? = w.heap[b]?
theorem Upd.refl (T : Nat → Prop) (w : World) : Upd T w w := ⟨rfl, rfl, rfl, Nat.le_refl _, fun _ _ _ => rfl⟩
theorem Upd.trans {T T1 : Nat → Prop} {a b c : World} (h : Upd T a b) (k : Upd T1 b c) (hT : ∀ x, x < a.heap.size → T1 x → T x) : Upd T a c :=
 ⟨k.os.trans h.os, k.tape.trans h.tape, k.output.trans h.output, Nat.le_trans h.size k.size,
  fun x hx hn => (k.block x (Nat.lt_of_lt_of_le hx h.size) (fun ht => hn (hT x hx ht))).trans (h.block x hx hn)⟩
theorem Upd.alloc {T : Nat → Prop} {a w : World} (h : Upd T a w) (o : Go.Obj) : Upd T a (w.alloc o) :=
 h.trans (T1 := fun _ => False) ⟨rfl, rfl, rfl, by simp, fun k hk _ => Below.heap_alloc _ _ _ hk⟩ (fun _ _ hf => hf.elim)
theorem Upd.drew {T : Nat → Prop} {a w : World} (h : Upd T a w) : Upd T a w.drew := ⟨h.os, h.tape, h.output, h.size, h.block⟩
theorem Upd.setCell {T : Nat → Prop} {a w : World} (h : Upd T a w) {p : Addr} (hp : p.block < a.heap.size → T p.block) (u : Value) : Upd T a (w.setCell p u) :=
 h.trans (T1 := fun b => b = p.block) ⟨rfl, rfl, rfl, by simp [World.setCell], fun k hk hn => Below.heap_setCell _ _ _ _ hn⟩ (fun x hx e => by subst e; exact hp hx)
theorem Upd.grown {T : Nat → Prop} {a w w' : World} {row : Option Nat} (h : Upd T a w) (hg : w.grownBy w' row) (hr : ∀ k, row = some k → k < a.heap.size → T k) : Upd T a w' :=
 h.trans (T1 := fun b => row = some b) ⟨hg.os, hg.tape, hg.output, hg.size, fun k hk hn => hg.block k hk (fun e => hn e.symm)⟩ (fun x hx e => hr x e hx)
theorem Upd.below {T : Nat → Prop} {B : Nat} {w w' : World} (h : Upd T w w') (hB : B ≤ w.heap.size) (hT : ∀ b, T b → B ≤ b) : Below B w w' :=
 ⟨h.os, h.tape, h.output, h.size, fun k hk => h.block k (by omega) (fun ht => by have := hT k ht; omega)⟩
theorem Upd.weaken {T T' : Nat → Prop} {w w' : World} (h : Upd T w w') (hT : ∀ b, b < w.heap.size → T b → T' b) : Upd T' w w' :=
 ⟨h.os, h.tape, h.output, h.size, fun b hb hn => h.block b hb (fun ht => hn (hT b hb ht))⟩
theorem Upd.cell {T : Nat → Prop} {w w' : World} (h : Upd T w w') {p : Addr} {v : Value} (hc : w.cell? p = some v) (hT : ¬ T p.block) : w'.cell? p = some v :=
 (World.cell?_of_block (h.block _ (World.block_lt_of_cell? w p hc) hT)).trans hc
def In (R : World → Prop) (x : World) : Prop := R x
structure Cls (w : World) (R : World → Prop) : Prop where
 below : ∀ x, In R x → Below w.heap.size w x
 alloc : ∀ x o, In R x → In R (x.alloc o)
 drew : ∀ x, In R x → In R x.drew
 drewN : ∀ x n, In R x → In R (x.drewN n)
 next : ∀ x y, In R x → Below x.heap.size x y → In R y
theorem cls_of (w w1 : World) (N : Nat) (hN : w.heap.size ≤ N) (h1 : N ≤ w1.heap.size) (hb : Below w.heap.size w w1) : Cls w (fun x => Below N w1 x) where
 below x h := hb.trans (Below.mono h hN)
 alloc x o h := Below.alloc h (Nat.le_trans h1 (Below.size h)) o
 drew x h := Below.drew h
 drewN x n h := Below.trans h (⟨rfl, rfl, rfl, Nat.le_refl _, fun _ _ => rfl⟩ : Below N x (x.drewN n))
 next x y h h' := Below.trans h (h'.mono (Nat.le_trans h1 (Below.size h)))
theorem cls_plain (w : World) : ∃ R : World → Prop, Cls w R ∧ In R w ∧ (∀ x, Below w.heap.size w x → In R x) :=
 ⟨_, cls_of w w _ (Nat.le_refl _) (Nat.le_refl _) (Below.refl _ _), Below.refl _ _, fun _ h => h⟩
theorem cls_box (w : World) (cs : Array Value) (t : TypeId) : ∃ R : World → Prop, Cls w R ∧ In R (w.alloc (.cells cs t)) ∧ ∀ j v, cs[j]? = some v → ∀ x, In R x → x.cell? ⟨w.heap.size, j, none⟩ = some v := by
 refine ⟨_, cls_of w (w.alloc (.cells cs t)) (w.heap.size + 1) (by omega) (by simp) ((Below.refl _ _).alloc (Nat.le_refl _) _), Below.refl _ _, fun j v hv x hx => ?_⟩
 rw [Below.cell hx (p := ⟨w.heap.size, j, none⟩) (by simp)]
 rw [World.cell?_alloc_at _ _ _ _ rfl]; exact hv
theorem cls_box4 (w : World) (v0 v1 v2 v3 : Value) (t : TypeId) : ∃ R : World → Prop, Cls w R ∧ In R (w.alloc (.cells #[v0, v1, v2, v3] t)) ∧
  (∀ x, In R x → x.cell? ⟨w.heap.size, 0, none⟩ = some v0) ∧ (∀ x, In R x → x.cell? ⟨w.heap.size, 1, none⟩ = some v1) ∧
  (∀ x, In R x → x.cell? ⟨w.heap.size, 2, none⟩ = some v2) ∧ (∀ x, In R x → x.cell? ⟨w.heap.size, 3, none⟩ = some v3) :=
 let ⟨R, hR, h1, h⟩ := cls_box w #[v0, v1, v2, v3] t
 ⟨R, hR, h1, h 0 v0 rfl, h 1 v1 rfl, h 2 v2 rfl, h 3 v3 rfl⟩
end Go.Proofs.YtjdgpgfiomnjkaaGreatDoor
namespace Go.Proofs.YtjdgpgfiomnjkaaGreatDoor
open Go.RowKit
set_option linter.unusedVariables false
set_option linter.unusedSimpArgs false
set_option linter.unusedSectionVars false
variable [Ghost]
structure Obj where
 id : Int
 kind : Int
 links : List Int
 text : ByteArray
def obj0 : Obj := ⟨0, 0, [], ByteArray.empty⟩
def nth (xs : List Int) (i : Nat) : Int := at_ 0 xs i
def obj (l : List Obj) (i : Nat) : Obj := at_ obj0 l i
theorem nth_lt {l : List Int} {i : Nat} (h : i < l.length) : nth l i = l[i] := at_lt h
theorem obj_lt {l : List Obj} {i : Nat} (h : i < l.length) : obj l i = l[i] := at_lt h
def IntsV (S : Nat → Prop) (w : World) (v : Value) (xs : List Int) : Prop :=
 Sl S w v 1 8 xs.length (fun i => [.int .i64 (nth xs i)]) ∧ ∀ x ∈ xs, I64 x
theorem IntsV.below {S : Nat → Prop} {w w' : World} {v : Value} {xs : List Int} (h : IntsV S w v xs) (hb : Below w.heap.size w w') : IntsV S w' v xs := ⟨h.1.below hb, h.2⟩
theorem IntsV.weaken {S S' : Nat → Prop} {w : World} {v : Value} {xs : List Int} (h : IntsV S w v xs) (hs : ∀ b, S b → S' b) : IntsV S' w v xs := ⟨h.1.weaken hs, h.2⟩
theorem IntsV.same {S : Nat → Prop} {w w' : World} {v : Value} {xs : List Int} (h : IntsV S w v xs) (hs : SameOn S w w') : IntsV S w' v xs := ⟨h.1.same hs, h.2⟩
theorem IntsV.i64 {S : Nat → Prop} {w : World} {v : Value} {xs : List Int} (h : IntsV S w v xs) (i : Nat) (hi : i < xs.length) : I64 (nth xs i) := h.2 _ (at_mem hi)
theorem IntsV.open {S : Nat → Prop} {w : World} {v : Value} {xs : List Int} (h : IntsV S w v xs) :
  ∃ a n cap, Hid (n = xs.length) ∧ v = .slice a n cap ∧ n ≤ cap ∧ cap ≤ 9223372036854775807 ∧ n * 8 ≤ 140737488351232 ∧
   (0 < n → ∃ b off, a = some ⟨b, off, none⟩ ∧ S b ∧ ∀ i x, i < n → Below w.heap.size w x → x.cell? ⟨b, off + i, none⟩ = some (.int .i64 (nth xs i))) := by
 obtain ⟨a, cap, hv, h1, h2, h3, h4⟩ := h.1
 refine ⟨a, xs.length, cap, rfl, hv, h1, h2, h3, fun hn => ?_⟩
 obtain ⟨b, off, ha, hS, hc⟩ := h4 hn
 exact ⟨b, off, ha, hS.1, fun i x hi hb => by have := below_cell hb (hc i hi 0 _ rfl); simpa using this⟩
theorem IntsV.nil (S : Nat → Prop) (w : World) (cap : Nat) (a : Option Addr) (h : cap ≤ 9223372036854775807) : IntsV S w (.slice a 0 cap) [] :=
 ⟨⟨a, cap, rfl, Nat.zero_le _, h, by simp, fun h => absurd h (by simp)⟩, fun x hx => by cases hx⟩
theorem IntsV.mk {S : Nat → Prop} {w : World} {xs : List Int} {b off cap : Nat} (h1 : xs.length ≤ cap) (h2 : cap ≤ 9223372036854775807) (h3 : xs.length * 8 ≤ 140737488351232) (hS : SF S w b off xs.length)
  (hc : ∀ i, i < xs.length → w.cell? ⟨b, off + i, none⟩ = some (.int .i64 (nth xs i))) (hi : ∀ x ∈ xs, I64 x) : IntsV S w (.slice (some ⟨b, off, none⟩) xs.length cap) xs :=
 ⟨⟨_, cap, rfl, h1, h2, h3, fun _ => ⟨b, off, rfl, by rw [Nat.mul_one]; exact hS, fun i hn j u hu => by
  match j, hu with
  | 0, hu => simp at hu; subst hu; simpa using hc i hn⟩⟩, hi⟩
def objCells (o : Obj) (lv : Value) : List Value := [.int .i64 o.id, .int .i64 o.kind, lv, .string o.text]
def ObjIs (S : Nat → Prop) (w : World) (o : Obj) (lv : Value) : Prop := IntsV S w lv o.links ∧ I64 o.id ∧ I64 o.kind ∧ o.text.size ≤ 140737488351232
theorem ObjIs.below {S : Nat → Prop} {w w' : World} {o : Obj} {lv : Value} (h : ObjIs S w o lv) (hb : Below w.heap.size w w') : ObjIs S w' o lv := ⟨h.1.below hb, h.2⟩
theorem ObjIs.weaken {S S' : Nat → Prop} {w : World} {o : Obj} {lv : Value} (h : ObjIs S w o lv) (hs : ∀ b, S b → S' b) : ObjIs S' w o lv := ⟨h.1.weaken hs, h.2⟩
theorem ObjIs.same {S : Nat → Prop} {w w' : World} {o : Obj} {lv : Value} (h : ObjIs S w o lv) (hs : SameOn S w w') : ObjIs S w' o lv := ⟨h.1.same hs, h.2⟩
def StoreV (S : Nat → Prop) (w : World) (v : Value) (l : List Obj) : Prop :=
 ∃ lvs : Nat → Value, Sl S w v 4 56 l.length (fun i => objCells (obj l i) (lvs i)) ∧ ∀ i, i < l.length → ObjIs S w (obj l i) (lvs i)
theorem StoreV.below {S : Nat → Prop} {w w' : World} {v : Value} {l : List Obj} (h : StoreV S w v l) (hb : Below w.heap.size w w') : StoreV S w' v l :=
 let ⟨lvs, h1, h2⟩ := h; ⟨lvs, h1.below hb, fun i hi => (h2 i hi).below hb⟩
theorem StoreV.weaken {S S' : Nat → Prop} {w : World} {v : Value} {l : List Obj} (h : StoreV S w v l) (hs : ∀ b, S b → S' b) : StoreV S' w v l :=
 let ⟨lvs, h1, h2⟩ := h; ⟨lvs, h1.weaken hs, fun i hi => (h2 i hi).weaken hs⟩
theorem StoreV.same {S : Nat → Prop} {w w' : World} {v : Value} {l : List Obj} (h : StoreV S w v l) (hs : SameOn S w w') : StoreV S w' v l :=
 let ⟨lvs, h1, h2⟩ := h; ⟨lvs, h1.same hs, fun i hi => (h2 i hi).same hs⟩
theorem StoreV.nil (S : Nat → Prop) (w : World) (cap : Nat) (a : Option Addr) (h : cap ≤ 9223372036854775807) : StoreV S w (.slice a 0 cap) [] :=
 ⟨fun _ => .nilFunc, ⟨a, cap, rfl, Nat.zero_le _, h, by simp, fun h => absurd h (by simp)⟩, fun i hi => by simp at hi⟩
theorem IntsV.shape {S : Nat → Prop} {w : World} {v : Value} {xs : List Int} (h : IntsV S w v xs) : ∃ p : Option Addr × Nat, v = .slice p.1 xs.length p.2 :=
 let ⟨a, cap, hv, _⟩ := h.1; ⟨(a, cap), hv⟩
theorem StoreV.open {S : Nat → Prop} {w : World} {v : Value} {l : List Obj} (h : StoreV S w v l) :
  ∃ a n cap, ∃ la : Nat → Option Addr, ∃ ln lc : Nat → Nat, Hid (n = l.length ∧ ∀ i, ln i = (obj l i).links.length) ∧ v = .slice a n cap ∧ n ≤ cap ∧ cap ≤ 9223372036854775807 ∧ n * 56 ≤ 140737488351232 ∧
   (0 < n → ∃ b off, a = some ⟨b, off, none⟩ ∧ S b ∧
    (∀ i x, i < n → Below w.heap.size w x → x.cell? ⟨b, off + i * 4, none⟩ = some (.int .i64 (obj l i).id)) ∧
    (∀ i x, i < n → Below w.heap.size w x → x.cell? ⟨b, off + i * 4 + 1, none⟩ = some (.int .i64 (obj l i).kind)) ∧
    (∀ i x, i < n → Below w.heap.size w x → x.cell? ⟨b, off + i * 4 + 2, none⟩ = some (.slice (la i) (ln i) (lc i))) ∧
    (∀ i x, i < n → Below w.heap.size w x → x.cell? ⟨b, off + i * 4 + 3, none⟩ = some (.string (obj l i).text))) ∧
   (∀ i, i < n → ObjIs S w (obj l i) (.slice (la i) (ln i) (lc i))) := by
 obtain ⟨lvs, h1, h2⟩ := h
 have hp : ∃ p : Nat → Option Addr × Nat, ∀ i, i < l.length → lvs i = .slice (p i).1 (obj l i).links.length (p i).2 := by
  refine ⟨fun i => if hi : i < l.length then Classical.choose (h2 i hi).1.shape else (none, 0), fun i hi => ?_⟩
  simp only [hi, dif_pos]
  exact Classical.choose_spec (h2 i hi).1.shape
 obtain ⟨p, hp⟩ := hp
 obtain ⟨a, cap, hv, h3, h4, h5, h6⟩ := h1
 refine ⟨a, l.length, cap, fun i => (p i).1, fun i => (obj l i).links.length, fun i => (p i).2, ⟨rfl, fun _ => rfl⟩, hv, h3, h4, h5, fun hn => ?_, fun i hi => hp i hi ▸ h2 i hi⟩
 obtain ⟨b, off, ha, hS, hc⟩ := h6 hn
 refine ⟨b, off, ha, hS.1, fun i x hi hb => ?_, fun i x hi hb => ?_, fun i x hi hb => ?_, fun i x hi hb => ?_⟩
 ·have := below_cell hb (hc i hi 0 _ rfl); simpa using this
 ·exact below_cell hb (hc i hi 1 _ rfl)
 ·have := below_cell hb (hc i hi 2 _ rfl); rw [hp i hi] at this; exact this
 ·exact below_cell hb (hc i hi 3 _ rfl)
end Go.Proofs.YtjdgpgfiomnjkaaGreatDoor
namespace Go.Proofs.YtjdgpgfiomnjkaaGreatDoor
set_option linter.unusedSectionVars false
variable [Ghost]
def scan (f : Nat → Int) : Nat → Int
 | 0 => 0
 | n + 1 => if scan f n = 0 then f n else scan f n
theorem scan_hit {f : Nat → Int} {k n : Nat} (h0 : scan f k = 0) (hf : f k ≠ 0) (hk : k < n) : scan f n = f k := by
 induction n with
 | zero => omega
 | succ n ih =>
  by_cases h : k = n
  ·subst h; simp [scan, h0]
  ·have := ih (by omega)
   simp [scan, this, hf]
theorem scan_next {f : Nat → Int} {k : Nat} (h0 : scan f k = 0) (hf : f k = 0) : scan f (k + 1) = 0 := by simp [scan, h0, hf]
theorem scan_zero {f : Nat → Int} {n : Nat} (h : scan f n = 0) : ∀ k, k < n → f k = 0 := by
 induction n with
 | zero => intro k hk; omega
 | succ n ih =>
  intro k hk
  by_cases h0 : scan f n = 0
  ·simp [scan, h0] at h
   by_cases e : k = n
   ·subst e; exact h
   ·exact ih h0 k (by omega)
  ·simp [scan, h0] at h
theorem scan_of_zero {f : Nat → Int} {n : Nat} (h : ∀ k, k < n → f k = 0) : scan f n = 0 := by
 induction n with
 | zero => rfl
 | succ n ih => exact scan_next (ih fun k hk => h k (by omega)) (h n (by omega))
def within (n a b : Int) : Bool := decide (a ≤ n) && decide (n ≤ b)
theorem within_true {n a b : Int} (h : within n a b = true) : a ≤ n ∧ n ≤ b := by simpa [within] using h
theorem within_false {n a b : Int} (h : within n a b = false) : ¬ (a ≤ n ∧ n ≤ b) := by
 intro h'; simp [within, h'.1, h'.2] at h
def linkBad (o : Obj) (i : Nat) : Int :=
 if within (nth o.links i) 1 (o.id - 1) = false then 3
 else if (if o.kind = 3 then 2 else 1) ≤ i ∧ nth o.links i ≤ nth o.links (i - 1) then 4 else 0
def formBad (o : Obj) : Bool := (decide (o.kind = 1) && decide (0 < o.links.length)) || (decide (o.kind = 3) && decide (o.links.length = 0))
def linksErr (o : Obj) : Int :=
 if scan (linkBad o) o.links.length ≠ 0 then scan (linkBad o) o.links.length
 else if formBad o = true then 1 else 0
def checkObj (o : Obj) : Int :=
 if within o.id 1 99 = false then 3
 else if within o.kind 1 3 = false then 7
 else if 4 < o.links.length ∨ 8 < o.text.size then 2
 else linksErr o
theorem linksErr_bad {o : Obj} {k : Nat} {e : Int} (h0 : scan (linkBad o) k = 0) (hf : linkBad o k = e) (he : e ≠ 0) (hk : k < o.links.length) : linksErr o = e := by
 have := scan_hit h0 (by omega) hk
 unfold linksErr; rw [this, hf, if_pos he]
theorem linksErr_form {o : Obj} (h0 : scan (linkBad o) o.links.length = 0) (h : formBad o = true) : linksErr o = 1 := by
 unfold linksErr; rw [h0, if_neg (by simp), if_pos h]
theorem linksErr_ok {o : Obj} (h0 : scan (linkBad o) o.links.length = 0) (h : formBad o = false) : linksErr o = 0 := by
 unfold linksErr; rw [h0, if_neg (by simp), if_neg (by simp [h])]
theorem linkBad_range {o : Obj} {k : Nat} (h : within (nth o.links k) 1 (o.id - 1) = false) : linkBad o k = 3 := by simp [linkBad, h]
theorem linkBad_state {o : Obj} {k : Nat} (h : within (nth o.links k) 1 (o.id - 1) = true) (h1 : (if o.kind = 3 then 2 else 1) ≤ k) (h2 : nth o.links k ≤ nth o.links (k - 1)) : linkBad o k = 4 := by
 simp only [linkBad, h]; simp [h1, h2]
theorem linkBad_ok {o : Obj} {k : Nat} (h : within (nth o.links k) 1 (o.id - 1) = true) (h1 : ¬ ((if o.kind = 3 then 2 else 1) ≤ k ∧ nth o.links k ≤ nth o.links (k - 1))) : linkBad o k = 0 := by
 simp only [linkBad, h]; simp only [h1]; simp
end Go.Proofs.YtjdgpgfiomnjkaaGreatDoor
namespace Go.Proofs.YtjdgpgfiomnjkaaGreatDoor
open Go.RowKit
set_option linter.unusedVariables false
set_option linter.unusedSimpArgs false
set_option linter.unusedSectionVars false
variable [Ghost]
section
variable {w w' : World} {base : Nat} {e : TypeId} {size : Nat} {v : Value} {n : Nat} {xs : List Value}
theorem own_shape (h : w.ownsRow base e size v n xs) : ∃ a c, v = .slice a n c := by
 rcases h.2 with ⟨rfl, rfl⟩ | ⟨g, cap, cur, rfl, _⟩
 ·exact ⟨_, _, rfl⟩
 ·exact ⟨_, _, rfl⟩
theorem own_ne (h : w.ownsRow base e size v n xs) {b : Nat} {cs : Array Value} {t : TypeId} {fz : Nat × Nat} (hb : w.heap[b]? = some (.cells cs t fz)) (hne : t ≠ e) : v.ownBlock ≠ some b := by
 intro hv
 rcases h.2 with ⟨rfl, rfl⟩ | ⟨g, cap, cur, rfl, _, hg, _⟩
 ·simp [Value.ownBlock] at hv
 ·simp [Value.ownBlock] at hv
  subst hv
  rw [hg] at hb; simp at hb; exact hne hb.2.1.symm
theorem own_sl (h : w.ownsRow base e size v n xs) {S : Nat → Prop} {bts : Nat} {cs : Nat → List Value} (hS : ∀ g, v.ownBlock = some g → S g) (hb : n * bts ≤ 140737488351232)
  (hc : ∀ i, i < n → ∀ j u, (cs i)[j]? = some u → xs[i * size + j]? = some u) : Sl S w v size bts n cs := by
 obtain ⟨h1, h2⟩ := h
 rcases h2 with ⟨rfl, rfl⟩ | ⟨g, cap, cur, rfl, _, hg, hn, hm, hs, ht⟩
 ·exact ⟨none, 0, rfl, Nat.le_refl _, by omega, hb, fun h => absurd h (by omega)⟩
 ·refine ⟨_, cap, rfl, hn, by simpa [maxLen] using hm, hb, fun hp => ⟨g, 0, rfl, ⟨hS g rfl, Fre.of_block hg⟩, fun i hi j u hu => ?_⟩⟩
  have hx := hc i hi j u hu
  rw [cell_of_row w g _ cur e (0, 0) hg]
  rw [← ht, List.getElem?_take] at hx
  split at hx
  ·simpa using hx
  ·cases hx
theorem own_mono (h : w.ownsRow base e size v n xs) {base' : Nat} (hb : base' ≤ base) : w.ownsRow base' e size v n xs := by
 refine ⟨h.1, ?_⟩
 rcases h.2 with h2 | ⟨g, cap, cur, hv, hg, r⟩
 ·exact .inl h2
 ·exact .inr ⟨g, cap, cur, hv, by omega, r⟩
end
theorem own_bytes {w : World} {base : Nat} {e : TypeId} {v : Value} {n : Nat} {xs : List Int} {zs : List Value} (h : w.ownsRow base e 1 v n zs) (hz : zs = xs.map (Value.int .u8)) (hn : 0 < n) :
  ∃ g cap, v = .slice (some ⟨g, 0, none⟩) n cap ∧ xs.length = n ∧ ∀ i, i < n → w.cell? ⟨g, 0 + i, none⟩ = some (.int .u8 (xs.getD i 0)) := by
 subst hz
 have hl : xs.length = n := by have := h.1; simpa using this
 rcases h.2 with ⟨rfl, rfl⟩ | ⟨g, cap, cur, rfl, _, hg, _⟩
 ·omega
 ·refine ⟨g, cap, rfl, hl, fun i hi => ?_⟩
  have := h.cells (g := g) rfl i (.int .u8 (xs.getD i 0)) (by
   rw [List.getElem?_map, List.getElem?_eq_getElem (by omega)]
   simp [List.getD_eq_getElem?_getD, List.getElem?_eq_getElem (show i < xs.length by omega)])
  simpa [Addr.add] using (show w.cell? ((⟨g, 0, none⟩ : Addr).add i) = _ from this) ▸ (by
   by_cases h0 : i = 0
   ·subst h0; rfl
   ·simp [Addr.add, h0])
def flat (cs : Nat → List Value) : Nat → List Value
 | 0 => []
 | n + 1 => flat cs n ++ cs n
theorem flat_length {cs : Nat → List Value} {sz n : Nat} (h : ∀ i, i < n → (cs i).length = sz) : (flat cs n).length = n * sz := by
 induction n with
 | zero => simp [flat]
 | succ n ih => rw [flat, List.length_append, ih fun i hi => h i (by omega), h n (by omega), Nat.succ_mul]
theorem flat_get {cs : Nat → List Value} {sz n : Nat} (h : ∀ i, i < n → (cs i).length = sz) : ∀ i, i < n → ∀ j u, (cs i)[j]? = some u → (flat cs n)[i * sz + j]? = some u := by
 induction n with
 | zero => intro i hi; omega
 | succ n ih =>
  intro i hi j u hu
  have hl := flat_length (n := n) fun i hi => h i (by omega)
  have hj : j < sz := by
   have := h i hi
   rcases Nat.lt_or_ge j (cs i).length with h' | h'
   ·omega
   ·rw [List.getElem?_eq_none h'] at hu; cases hu
  rw [flat]
  by_cases hin : i = n
  ·subst hin
   rw [List.getElem?_append_right (by omega), hl, Nat.add_sub_cancel_left]; exact hu
  ·have hlt : i * sz + j < n * sz := by
    have := Nat.mul_le_mul_right sz (show i + 1 ≤ n by omega)
    rw [Nat.add_mul] at this; omega
   rw [List.getElem?_append_left (by omega)]
   exact ih (fun i hi => h i (by omega)) i (by omega) j u hu
theorem flat_congr {cs ds : Nat → List Value} {n : Nat} (h : ∀ i, i < n → cs i = ds i) : flat cs n = flat ds n := by
 induction n with
 | zero => rfl
 | succ n ih => rw [flat, flat, ih fun i hi => h i (by omega), h n (by omega)]
theorem sl_new (w : World) (cs : Nat → List Value) (sz bts n : Nat) (t : TypeId) (N : Nat) (hN : N = w.heap.size) (h : ∀ i, i < n → (cs i).length = sz) (hl : n * bts ≤ 140737488351232) (hn : n ≤ 9223372036854775807) :
  Sl (fun b => b = N) (w.alloc (.cells (flat cs n).toArray t)) (.slice (some ⟨N, 0, none⟩) n n) sz bts n cs := by
 subst hN
 refine ⟨_, n, rfl, Nat.le_refl _, hn, hl, fun _ => ⟨_, 0, rfl, ⟨rfl, Fre.of_block (heap_alloc_new w _)⟩, fun i hi j u hu => ?_⟩⟩
 rw [World.cell?_alloc_at _ _ _ _ rfl, Nat.zero_add]
 simpa using flat_get h i hi j u hu
theorem held_step {T : Nat → Prop} {w wr w1 : World} {bb base : Nat} {te t : TypeId} {size n m : Nat} {bv bv' v' : Value} {xs ys : List Value} {o : Go.Obj} (hte : t ≠ te)
  (hbb : bb < w.heap.size) (hT : T bb) (hTv : ∀ g, bv.ownBlock = some g → T g)
  (hbr : wr.heap[bb]? = some (.cells #[bv'] t (0, 0))) (hor : wr.ownsRow base te size bv' n xs) (hup : Upd T w wr) (hgr : ∀ g, bv'.ownBlock = some g → bv.ownBlock = some g ∨ w.heap.size ≤ g)
  (hown : w1.ownsRow base te size v' m ys) (hgrow : (wr.alloc o).grownBy w1 bv'.ownBlock) (hat : v'.ownBlock = bv'.ownBlock ∨ v'.ownBlock = some (wr.heap.size + 1)) :
  w1.cell? ⟨bb, 0, none⟩ = some bv' ∧ w1.frozen? ⟨bb, 0, none⟩ = false ∧
  (w1.setCell ⟨bb, 0, none⟩ v').heap[bb]? = some (.cells #[v'] t (0, 0)) ∧ (w1.setCell ⟨bb, 0, none⟩ v').ownsRow base te size v' m ys ∧ Upd T w (w1.setCell ⟨bb, 0, none⟩ v') ∧
   (∀ g, v'.ownBlock = some g → bv.ownBlock = some g ∨ w.heap.size ≤ g) := by
 have hne : bv'.ownBlock ≠ some bb := own_ne hor hbr hte
 have hlt := lt_of_block hbr
 have h1 : w1.heap[bb]? = some (.cells #[bv'] t (0, 0)) := by
  rw [hgrow.block bb (by simp; omega) (fun e => hne e.symm), Below.heap_alloc _ _ _ hlt]; exact hbr
 have hne' : v'.ownBlock ≠ some bb := own_ne hown h1 hte
 refine ⟨cell_of_one h1, free_of_one h1, one_setCell h1, ownsRow_setCell_other hown hne' _, ?_, fun g hg => ?_⟩
 ·refine Upd.setCell ?_ (fun _ => hT) _
  refine Upd.grown (hup.alloc o) hgrow (fun k hk hlt => ?_)
  rcases hgr k hk with h | h
  ·exact hTv k h
  ·omega
 ·rcases hat with h | h
  ·exact hgr g (h ▸ hg)
  ·right; rw [h] at hg; cases hg; have := hup.size; omega
end Go.Proofs.YtjdgpgfiomnjkaaGreatDoor
namespace Go.Proofs.YtjdgpgfiomnjkaaGreatDoor
open Go.RowKit
set_option linter.unusedVariables false
set_option linter.unusedSimpArgs false
set_option linter.unusedSectionVars false
variable [Ghost]
theorem IntsV.lt {S : Nat → Prop} {w : World} {v : Value} {xs : List Int} (h : IntsV S w v xs) : IntsV (fun b => S b ∧ b < w.heap.size) w v xs := by
 obtain ⟨⟨a, cap, hv, h1, h2, h3, h4⟩, h5⟩ := h
 refine ⟨⟨a, cap, hv, h1, h2, h3, fun hn => ?_⟩, h5⟩
 obtain ⟨b, off, ha, hS, hc⟩ := h4 hn
 exact ⟨b, off, ha, ⟨⟨hS.1, World.block_lt_of_cell? w _ (hc 0 hn 0 _ rfl)⟩, hS.2⟩, hc⟩
theorem ints_new (w : World) (xs : List Int) (t : TypeId) (N : Nat) (hN : N = w.heap.size) (hl : xs.length * 8 ≤ 140737488351232) (hi : ∀ x ∈ xs, I64 x) :
  IntsV (fun b => b = N) (w.alloc (.cells (xs.map (Value.int .i64)).toArray t)) (.slice (some ⟨N, 0, none⟩) xs.length xs.length) xs := by
 subst hN
 refine IntsV.mk (Nat.le_refl _) (by omega) hl ⟨rfl, Fre.of_block (heap_alloc_new w _)⟩ (fun i hn => ?_) hi
 rw [World.cell?_alloc_at _ _ _ _ rfl]
 simp only [List.getElem?_toArray, List.getElem?_map]
 simp [List.getElem?_eq_getElem hn, nth_lt hn]
theorem store_new {S : Nat → Prop} (w : World) (l : List Obj) (lvs : Nat → Value) (t : TypeId) (N : Nat) (hN : N = w.heap.size) (hl : l.length * 56 ≤ 140737488351232)
  (h : ∀ i, i < l.length → ObjIs S w (obj l i) (lvs i)) :
  StoreV (fun b => b = N ∨ S b) (w.alloc (.cells (flat (fun i => objCells (obj l i) (lvs i)) l.length).toArray t)) (.slice (some ⟨N, 0, none⟩) l.length l.length) l :=
 ⟨lvs, (sl_new w _ 4 56 _ t N hN (fun _ _ => rfl) hl (by omega)).weaken fun b hb => .inl hb,
  fun i hi => ((h i hi).below ((Below.refl _ _).alloc (Nat.le_refl _) _)).weaken fun b hb => .inr hb⟩
end Go.Proofs.YtjdgpgfiomnjkaaGreatDoor
namespace Go.Proofs.YtjdgpgfiomnjkaaGreatDoor
open Go.RowKit
set_option linter.unusedVariables false
set_option linter.unusedSimpArgs false
set_option linter.unusedSectionVars false
variable [Ghost]
def b8 (n : Int) : Int := n % 256
theorem b8_wrap (n : Int) : IntKind.u8.wrap n = b8 n := IntKind.wrap_u8' n
def strN (s : ByteArray) : List Int := s.data.toList.map fun c => (c.toNat : Int)
theorem strN_length (s : ByteArray) : (strN s).length = s.size := by rw [strN, List.length_map]; rfl
theorem strCells_strN (s : ByteArray) : Lib.strCells s = (strN s).map (Value.int .u8) := by
 simp [Lib.strCells, strN]
def encN (o : Obj) : List Int := [b8 o.id, b8 o.kind, b8 o.links.length] ++ o.links.map b8 ++ [b8 o.text.size] ++ strN o.text
def encB (o : Obj) : ByteArray := strOfNums (encN o)
theorem encN_length (o : Obj) : (encN o).length = 4 + o.links.length + o.text.size := by simp [encN, strN_length]; omega
theorem encB_size (o : Obj) : (encB o).size = 4 + o.links.length + o.text.size := by rw [encB, strOfNums_size, encN_length]
def putTo (ys : List Value) (xs : List Int) (k : Nat) : List Value := ys ++ (xs.take k).map fun x => .int .u8 (b8 x)
theorem putTo_zero (ys : List Value) (xs : List Int) : putTo ys xs 0 = ys := by simp [putTo]
theorem putTo_next {ys : List Value} {xs : List Int} {k : Nat} (h : k < xs.length) : putTo ys xs k ++ [.int .u8 (b8 (nth xs k))] = putTo ys xs (k + 1) := by
 unfold putTo; rw [List.take_succ_eq_append_getElem h, List.map_append, nth_lt h, List.append_assoc]; rfl
theorem putTo_all (ys : List Value) (xs : List Int) : putTo ys xs xs.length = ys ++ xs.map fun x => .int .u8 (b8 x) := by simp [putTo]
theorem checkObj_ok {o : Obj} (h : checkObj o = 0) : (1 ≤ o.id ∧ o.id ≤ 99) ∧ (1 ≤ o.kind ∧ o.kind ≤ 3) ∧ o.links.length ≤ 4 ∧ o.text.size ≤ 8 ∧ linksErr o = 0 := by
 unfold checkObj at h
 cases h1 : within o.id 1 99 <;> simp [h1] at h
 cases h2 : within o.kind 1 3 <;> simp [h2] at h
 by_cases h3 : 4 < o.links.length ∨ 8 < o.text.size
 ·simp [h3] at h
 ·simp only [h3, if_false] at h
  exact ⟨within_true h1, within_true h2, by omega, by omega, h⟩
theorem encN_cells (o : Obj) (n : Nat) (hn : n = o.links.length) : Value.int IntKind.u8 (b8 o.id) :: Value.int IntKind.u8 (b8 o.kind) :: Value.int IntKind.u8 (b8 (n : Int)) ::
  (List.map (fun x => Value.int IntKind.u8 (b8 x)) o.links ++ Value.int IntKind.u8 (b8 (o.text.size : Int)) :: Lib.strCells o.text) = (encN o).map (Value.int .u8) := by
 subst hn
 rw [strCells_strN]
 simp [encN]
theorem cls_grown {w : World} {R : World → Prop} (hR : Cls w R) : ∀ (x : World) (d : Nat) (os : Array Go.Obj), In R x → In R (Go.Sort.grow (redrawn x d) os) :=
 fun x d os h => hR.next x _ h (below_regrown x d os)
end Go.Proofs.YtjdgpgfiomnjkaaGreatDoor
namespace Go.Proofs.YtjdgpgfiomnjkaaGreatDoor
set_option linter.unusedVariables false
set_option linter.unusedSectionVars false
variable [Ghost]
theorem all_next {p : Nat → Prop} {k : Nat} (h : ∀ j, j < k → p j) (hk : p k) : ∀ j, j < k + 1 → p j := fun j hj => by
 rcases Nat.lt_or_ge j k with h' | h'
 ·exact h j h'
 ·have e : j = k := by omega
  subst e; exact hk
def sameInts (xs ys : List Int) : Bool := decide (xs = ys)
theorem sameInts_len {xs ys : List Int} (h : xs.length ≠ ys.length) : sameInts xs ys = false := by
 simp only [sameInts, decide_eq_false_iff_not]; intro e; exact h (by rw [e])
theorem sameInts_at {xs ys : List Int} {k : Nat} (h : nth xs k ≠ nth ys k) : sameInts xs ys = false := by
 simp only [sameInts, decide_eq_false_iff_not]; intro e; exact h (by rw [e])
theorem sameInts_all {xs ys : List Int} (hl : xs.length = ys.length) (h : ∀ k, k < xs.length → nth xs k = nth ys k) : sameInts xs ys = true := by
 simp only [sameInts, decide_eq_true_eq]
 apply List.ext_getElem hl
 intro i h1 h2
 have := h i h1
 rwa [nth_lt h1, nth_lt h2] at this
theorem text_eq (a b : ByteArray) : (a.toList == b.toList) = decide (a = b) := by
 rw [ByteArray.toList_eq, ByteArray.toList_eq]
 by_cases h : a = b
 ·subst h; simp
 ·have h2 : ¬ (a.data.toList = b.data.toList) := fun e => h (by cases a; cases b; congr; exact Array.toList_inj.1 e)
  rw [decide_eq_false h]; exact beq_eq_false_iff_ne.2 h2
def sameObj (a b : Obj) : Bool := (a.id == b.id) && (a.kind == b.kind) && (a.text.toList == b.text.toList) && sameInts a.links b.links
theorem sameObj_iff (a b : Obj) : sameObj a b = true ↔ a = b := by
 unfold sameObj
 rw [text_eq]
 simp only [Bool.and_eq_true, beq_iff_eq, decide_eq_true_eq, sameInts]
 constructor
 ·rintro ⟨⟨⟨h1, h2⟩, h3⟩, h4⟩; cases a; cases b; simp_all
 ·rintro rfl; simp
end Go.Proofs.YtjdgpgfiomnjkaaGreatDoor
namespace Go.Proofs.YtjdgpgfiomnjkaaGreatDoor
open Go.RowKit
set_option linter.unusedVariables false
set_option linter.unusedSectionVars false
variable [Ghost]
def rest (s : ByteArray) (k : Nat) : ByteArray := s.extract k s.size
def sub (s : ByteArray) (k n : Nat) : ByteArray := s.extract k (k + n)
def byt (s : ByteArray) (k : Nat) : Int := ((s.data.toList.getD k 0).toNat : Int)
theorem byt_range (s : ByteArray) (k : Nat) : 0 ≤ byt s k ∧ byt s k ≤ 255 := by
 unfold byt
 have := (s.data.toList.getD k 0).toNat_lt
 omega
theorem rest_size {s : ByteArray} {k : Nat} (h : k ≤ s.size) : (rest s k).size = s.size - k := by simp [rest, ByteArray.size_extract]
theorem sub_size {s : ByteArray} {k n : Nat} (h : k + n ≤ s.size) : (sub s k n).size = n := by simp [sub, ByteArray.size_extract]; omega
theorem rest_zero (s : ByteArray) : rest s 0 = s := by simp [rest]
theorem rest_head {s : ByteArray} {k n : Nat} (h : k + n ≤ s.size) : (rest s k).extract 0 n = sub s k n := by
 unfold rest sub
 rw [ByteArray.extract_extract]
 congr 1
 all_goals omega
theorem rest_tail {s : ByteArray} {k n : Nat} (h : k + n ≤ s.size) : (rest s k).extract n (rest s k).size = rest s (k + n) := by
 rw [rest_size (by omega)]
 unfold rest
 rw [ByteArray.extract_extract]
 congr 1
 all_goals omega
theorem byt_get {s : ByteArray} {k : Nat} (h : k < s.size) : ((s[k]'h).toNat : Int) = byt s k := by
 unfold byt
 have h' : k < s.data.toList.length := by simpa using h
 rw [List.getD_eq_getElem?_getD, List.getElem?_eq_getElem h']
 rfl
theorem byt_sub {s : ByteArray} {k n i : Nat} (h : k + n ≤ s.size) (hi : i < n) : byt (sub s k n) i = byt s (k + i) := by
 unfold byt sub
 rw [Lib.extract_data]
 congr 2
 rw [List.getD_eq_getElem?_getD, List.getD_eq_getElem?_getD, List.getElem?_take, List.getElem?_drop]
 rw [if_pos (by omega)]
theorem index_sub {P : Program} (t : TypeId) (h : P.underlying t = some .string) {s : ByteArray} {k n : Nat} (hk : k + n ≤ s.size) (i : Int) (hi : 0 ≤ i ∧ i < n) (w : World) :
  (Instr.index t (.string (sub s k n)) (.int .i64 i)).run P w = .ok (.int .u8 (byt s (k + i.toNat))) w := by
 have hs := sub_size hk
 rw [run_index_string w t _ _ i h]
 have hb := byt_sub (i := i.toNat) hk (by omega)
 rw [dif_pos (by omega), byt_get, hb]
end Go.Proofs.YtjdgpgfiomnjkaaGreatDoor
namespace Go.Proofs.YtjdgpgfiomnjkaaGreatDoor
open Go.RowKit
set_option linter.unusedVariables false
set_option linter.unusedSectionVars false
variable [Ghost]
def rawN (s : ByteArray) : Nat := (byt s 2).toNat
def rawM (s : ByteArray) : Nat := (byt s (3 + rawN s)).toNat
def rawOk (s : ByteArray) : Prop := 3 ≤ s.size ∧ 4 + rawN s ≤ s.size ∧ 4 + rawN s + rawM s ≤ s.size
def rawLen (s : ByteArray) : Nat := 4 + rawN s + rawM s
def rawTo (s : ByteArray) (k : Nat) : List Int := (List.range k).map fun i => byt s (3 + i)
def rawObj (s : ByteArray) : Obj := ⟨byt s 0, byt s 1, rawTo s (rawN s), sub s (4 + rawN s) (rawM s)⟩
theorem rawTo_length (s : ByteArray) (k : Nat) : (rawTo s k).length = k := by simp [rawTo]
theorem rawTo_next (s : ByteArray) (k : Nat) : rawTo s (k + 1) = rawTo s k ++ [byt s (3 + k)] := by simp [rawTo, List.range_succ]
theorem rawTo_i64 (s : ByteArray) (k : Nat) : ∀ x ∈ rawTo s k, I64 x := by
 intro x hx
 simp only [rawTo, List.mem_map] at hx
 obtain ⟨i, _, rfl⟩ := hx
 have := byt_range s (3 + i)
 unfold I64; omega
theorem rawN_le (s : ByteArray) : rawN s ≤ 255 := by have := byt_range s 2; unfold rawN; omega
theorem rawM_le (s : ByteArray) : rawM s ≤ 255 := by have := byt_range s (3 + rawN s); unfold rawM; omega
theorem byt_nat (s : ByteArray) (k : Nat) : ((byt s k).toNat : Int) = byt s k := by have := byt_range s k; omega
theorem block_setCell {w : World} {b j : Nat} {cs : Array Value} {t : TypeId} {fz : Nat × Nat} (h : w.heap[b]? = some (.cells cs t fz)) (v : Value) :
  (w.setCell ⟨b, j, none⟩ v).heap[b]? = some (.cells (cs.setIfInBounds j v) t fz) := by
 simp [World.setCell, Array.getElem?_modify, h]
theorem block_cell {w : World} {b j : Nat} {cs : Array Value} {t : TypeId} {fz : Nat × Nat} (h : w.heap[b]? = some (.cells cs t fz)) {v : Value} (hv : cs[j]? = some v) : w.cell? ⟨b, j, none⟩ = some v := by
 simp [World.cell?, h, hv]
theorem block_free {w : World} {b j : Nat} {cs : Array Value} {t : TypeId} (h : w.heap[b]? = some (.cells cs t (0, 0))) : w.frozen? ⟨b, j, none⟩ = false := by
 simp [World.frozen?, h]
theorem Upd.blk {T : Nat → Prop} {w w' : World} (h : Upd T w w') {b : Nat} {o : Go.Obj} (hb : w.heap[b]? = some o) (hT : ¬ T b) : w'.heap[b]? = some o := by
 rw [h.block b (lt_of_block hb) hT]; exact hb
theorem Upd.of_drew {T : Nat → Prop} {w w' : World} (h : Upd T w.drew w') : Upd T w w' := ⟨h.os, h.tape, h.output, h.size, h.block⟩
theorem own_upd {T : Nat → Prop} {w w' : World} {base : Nat} {e : TypeId} {size : Nat} {v : Value} {n : Nat} {xs : List Value} (h : w.ownsRow base e size v n xs) (hu : Upd T w w') (hT : ∀ g, v.ownBlock = some g → ¬ T g) : w'.ownsRow base e size v n xs := by
 refine ⟨h.1, ?_⟩
 rcases h.2 with h2 | ⟨g, cap, cur, rfl, hg, hh, r⟩
 ·exact .inl h2
 ·exact .inr ⟨g, cap, cur, rfl, hg, hu.blk hh (hT g rfl), r⟩
end Go.Proofs.YtjdgpgfiomnjkaaGreatDoor
namespace Go.Proofs.YtjdgpgfiomnjkaaGreatDoor
set_option linter.unusedVariables false
set_option linter.unusedSimpArgs false
set_option linter.unusedSectionVars false
variable [Ghost]
def kindOf (l : List Obj) (id : Int) : Int := match l.find? (fun o => o.id == id) with | some o => o.kind | none => 0
def atOf (l : List Obj) (id : Int) : Int := match l.findIdx? (fun o => o.id == id) with | some i => (i : Int) | none => -1
theorem find_hit {l : List Obj} {id : Int} {k : Nat} (h : ∀ j, j < k → (obj l j).id ≠ id) (hk : k < l.length) (he : (obj l k).id = id) : l.find? (fun o => o.id == id) = some (obj l k) := by
 induction l generalizing k with
 | nil => simp at hk
 | cons a l ih =>
  cases k with
  | zero =>
   have : a.id = id := he
   simp [List.find?_cons, this]; rfl
  | succ k =>
   have h0 : a.id ≠ id := h 0 (by omega)
   have hne : (a.id == id) = false := by simpa using h0
   rw [List.find?_cons, hne]
   exact ih (fun j hj => h (j + 1) (by omega)) (by simpa using hk) he
theorem find_none {l : List Obj} {id : Int} (h : ∀ j, j < l.length → (obj l j).id ≠ id) : l.find? (fun o => o.id == id) = none := by
 rw [List.find?_eq_none]
 intro x hx
 obtain ⟨i, hi, rfl⟩ := List.getElem_of_mem hx
 have := h i hi
 rw [obj_lt hi] at this
 simpa using this
theorem kindOf_hit {l : List Obj} {id : Int} {k : Nat} (h : ∀ j, j < k → (obj l j).id ≠ id) (hk : k < l.length) (he : (obj l k).id = id) : kindOf l id = (obj l k).kind := by
 unfold kindOf; rw [find_hit h hk he]
theorem kindOf_none {l : List Obj} {id : Int} (h : ∀ j, j < l.length → (obj l j).id ≠ id) : kindOf l id = 0 := by
 unfold kindOf; rw [find_none h]
theorem idx_hit {l : List Obj} {id : Int} {k : Nat} (h : ∀ j, j < k → (obj l j).id ≠ id) (hk : k < l.length) (he : (obj l k).id = id) : l.findIdx? (fun o => o.id == id) = some k := by
 rw [List.findIdx?_eq_some_iff_getElem]
 refine ⟨hk, by rw [← obj_lt hk]; simpa using he, fun j hj => ?_⟩
 have := h j hj
 rw [obj_lt (by omega)] at this
 simpa using this
theorem atOf_hit {l : List Obj} {id : Int} {k : Nat} (h : ∀ j, j < k → (obj l j).id ≠ id) (hk : k < l.length) (he : (obj l k).id = id) : atOf l id = k := by
 unfold atOf; rw [idx_hit h hk he]
theorem atOf_none {l : List Obj} {id : Int} (h : ∀ j, j < l.length → (obj l j).id ≠ id) : atOf l id = -1 := by
 unfold atOf
 have : l.findIdx? (fun o => o.id == id) = none := by
  rw [List.findIdx?_eq_none_iff]
  intro x hx
  obtain ⟨i, hi, rfl⟩ := List.getElem_of_mem hx
  have := h i hi
  rw [obj_lt hi] at this
  simpa using this
 rw [this]
def Rising (l : List Obj) : Prop := ∀ i j, i < j → j < l.length → (obj l i).id < (obj l j).id
theorem rising_of_next {l : List Obj} {n : Nat} (hn : n ≤ l.length) (h : ∀ i, i + 1 < n → (obj l i).id < (obj l (i + 1)).id) : ∀ i j, i < j → j < n → (obj l i).id < (obj l j).id := by
 intro i j hij
 induction j with
 | zero => omega
 | succ j ih =>
  intro hj
  have h1 := h j hj
  by_cases e : i = j
  ·subst e; exact h1
  ·have := ih (by omega) (by omega); omega
theorem obj_take {l : List Obj} {i n : Nat} (h : i < n) : obj (l.take n) i = obj l i := by
 unfold obj at_
 simp only [List.getD_eq_getElem?_getD, List.getElem?_take, h, if_true]
theorem rising_take {l : List Obj} {n : Nat} (h : ∀ i j, i < j → j < n → (obj l i).id < (obj l j).id) : Rising (l.take n) := by
 intro i j hij hj
 have hj' : j < n := by simp at hj; omega
 rw [obj_take (by omega), obj_take hj']
 exact h i j hij hj'
theorem Rising.take {l : List Obj} (h : Rising l) (n : Nat) : Rising (l.take n) := by
 intro i j hij hj
 simp at hj
 rw [obj_take (by omega), obj_take (by omega)]
 exact h i j hij (by omega)
def lo (l : List Obj) (id : Int) : Nat := l.countP (fun o => decide (o.id < id))
theorem lo_le (l : List Obj) (id : Int) : lo l id ≤ l.length := List.countP_le_length
theorem lo_eq {l : List Obj} {id : Int} {i : Nat} (hi : i ≤ l.length) (h1 : ∀ j, j < i → (obj l j).id < id) (h2 : ∀ j, i ≤ j → j < l.length → id ≤ (obj l j).id) : lo l id = i := by
 unfold lo
 conv => lhs; rw [← List.take_append_drop i l]
 rw [List.countP_append]
 have a1 : (l.take i).countP (fun o => decide (o.id < id)) = (l.take i).length := by
  rw [List.countP_eq_length]
  intro x hx
  obtain ⟨j, hj, rfl⟩ := List.getElem_of_mem hx
  simp at hj
  have := h1 j (by omega)
  rw [obj_lt (by omega)] at this
  simpa using this
 have a2 : (l.drop i).countP (fun o => decide (o.id < id)) = 0 := by
  rw [List.countP_eq_zero]
  intro x hx
  obtain ⟨j, hj, rfl⟩ := List.getElem_of_mem hx
  simp at hj
  have := h2 (i + j) (by omega) (by omega)
  rw [obj_lt (by omega)] at this
  simpa using this
 rw [a1, a2]; simp; omega
theorem Rising.lo_lt {l : List Obj} (h : Rising l) {id : Int} : ∀ j, j < lo l id → (obj l j).id < id := by
 induction l with
 | nil => intro j hj; simp [lo] at hj
 | cons a l ih =>
  have hl : Rising l := fun i j hij hj => h (i + 1) (j + 1) (by omega) (by simpa using hj)
  intro j hj
  by_cases ha : a.id < id
  ·have e : lo (a :: l) id = lo l id + 1 := by unfold lo; rw [List.countP_cons]; simp [ha]
   cases j with
   | zero => exact ha
   | succ j => exact ih hl j (by omega)
  ·have e : lo (a :: l) id = 0 := by
    refine lo_eq (by omega) (fun j hj => by omega) (fun j _ hj => ?_)
    cases j with
    | zero => show id ≤ a.id; omega
    | succ j => have : a.id < (obj (a :: l) (j + 1)).id := h 0 (j + 1) (by omega) hj; omega
   omega
theorem Rising.lo_ge {l : List Obj} (h : Rising l) {id : Int} : ∀ j, lo l id ≤ j → j < l.length → id ≤ (obj l j).id := by
 induction l with
 | nil => intro j _ hj; simp at hj
 | cons a l ih =>
  have hl : Rising l := fun i j hij hj => h (i + 1) (j + 1) (by omega) (by simpa using hj)
  intro j hlo hj
  by_cases ha : a.id < id
  ·have e : lo (a :: l) id = lo l id + 1 := by unfold lo; rw [List.countP_cons]; simp [ha]
   cases j with
   | zero => omega
   | succ j => exact ih hl j (by omega) (by simpa using hj)
  ·cases j with
   | zero => show id ≤ a.id; omega
   | succ j => have : a.id < (obj (a :: l) (j + 1)).id := h 0 (j + 1) (by omega) hj; omega
def isAt (l : List Obj) (id : Int) : Bool := decide (lo l id < l.length) && decide ((obj l (lo l id)).id = id)
theorem Rising.kind {l : List Obj} (h : Rising l) (id : Int) : kindOf l id = if isAt l id then (obj l (lo l id)).kind else 0 := by
 unfold isAt
 by_cases h1 : lo l id < l.length
 ·by_cases h2 : (obj l (lo l id)).id = id
  ·rw [kindOf_hit (k := lo l id) (fun j hj => by have := h.lo_lt j hj; omega) h1 h2]; simp [h1, h2]
  ·rw [kindOf_none fun j hj => ?_]
   ·simp [h2]
   ·rcases Nat.lt_or_ge j (lo l id) with hj' | hj'
    ·have := h.lo_lt j hj'; omega
    ·by_cases e : j = lo l id
     ·subst e; exact h2
     ·have a := h (lo l id) j (by omega) hj
      have b := h.lo_ge (lo l id) (Nat.le_refl _) h1
      omega
 ·rw [kindOf_none fun j hj => by have := h.lo_lt (id := id) j (by omega); omega]; simp [h1]
theorem Rising.at_ {l : List Obj} (h : Rising l) (id : Int) : atOf l id = if isAt l id then (lo l id : Int) else -1 := by
 unfold isAt
 by_cases h1 : lo l id < l.length
 ·by_cases h2 : (obj l (lo l id)).id = id
  ·rw [atOf_hit (k := lo l id) (fun j hj => by have := h.lo_lt j hj; omega) h1 h2]; simp [h1, h2]
  ·rw [atOf_none fun j hj => ?_]
   ·simp [h2]
   ·rcases Nat.lt_or_ge j (lo l id) with hj' | hj'
    ·have := h.lo_lt j hj'; omega
    ·by_cases e : j = lo l id
     ·subst e; exact h2
     ·have a := h (lo l id) j (by omega) hj
      have b := h.lo_ge (lo l id) (Nat.le_refl _) h1
      omega
 ·rw [atOf_none fun j hj => by have := h.lo_lt (id := id) j (by omega); omega]; simp [h1]
def linkErr (o : Obj) (k : Nat) (kind : Int) : Int :=
 if kind = 0 then 5
 else if (if o.kind = 3 then (kind = 2 ∧ k = 0) ∨ (kind = 3 ∧ 0 < k) else kind = 1 ∨ kind = 2) then 0 else 7
def objErr (l : List Obj) (i : Nat) : Int :=
 if checkObj (obj l i) ≠ 0 then checkObj (obj l i)
 else if 0 < i ∧ (obj l i).id ≤ (obj l (i - 1)).id then 4
 else scan (fun k => linkErr (obj l i) k (kindOf (l.take i) (nth (obj l i).links k))) (obj l i).links.length
def checkStore (l : List Obj) : Int := if 40 < l.length then 2 else scan (objErr l) l.length
theorem objErr_bad {l : List Obj} {i : Nat} (h : checkObj (obj l i) ≠ 0) : objErr l i = checkObj (obj l i) := by unfold objErr; rw [if_pos h]
theorem objErr_state {l : List Obj} {i : Nat} (h : checkObj (obj l i) = 0) (h1 : 0 < i) (h2 : (obj l i).id ≤ (obj l (i - 1)).id) : objErr l i = 4 := by
 unfold objErr; rw [if_neg (by simp [h]), if_pos ⟨h1, h2⟩]
theorem objErr_links {l : List Obj} {i : Nat} (h : checkObj (obj l i) = 0) (h1 : 0 < i → (obj l (i - 1)).id < (obj l i).id) :
  objErr l i = scan (fun k => linkErr (obj l i) k (kindOf (l.take i) (nth (obj l i).links k))) (obj l i).links.length := by
 unfold objErr; rw [if_neg (by simp [h]), if_neg (fun h' => by have := h1 h'.1; omega)]
theorem objErr_zero {l : List Obj} {i : Nat} (h : objErr l i = 0) : checkObj (obj l i) = 0 ∧ (0 < i → (obj l (i - 1)).id < (obj l i).id) ∧
  ∀ k, k < (obj l i).links.length → linkErr (obj l i) k (kindOf (l.take i) (nth (obj l i).links k)) = 0 := by
 unfold objErr at h
 by_cases h1 : checkObj (obj l i) = 0
 ·rw [if_neg (by simp [h1])] at h
  by_cases h2 : 0 < i ∧ (obj l i).id ≤ (obj l (i - 1)).id
  ·rw [if_pos h2] at h; exact absurd h (by decide)
  ·rw [if_neg h2] at h
   exact ⟨h1, fun hi => by omega, scan_zero h⟩
 ·rw [if_pos h1] at h; exact absurd h h1
theorem checkStore_bad {l : List Obj} {i : Nat} {e : Int} (hn : l.length ≤ 40) (h0 : scan (objErr l) i = 0) (hi : i < l.length) (he : objErr l i = e) (hne : e ≠ 0) : checkStore l = e := by
 unfold checkStore; rw [if_neg (by omega), scan_hit h0 (by rw [he]; exact hne) hi, he]
theorem checkStore_ok {l : List Obj} (hn : l.length ≤ 40) (h0 : scan (objErr l) l.length = 0) : checkStore l = 0 := by
 unfold checkStore; rw [if_neg (by omega), h0]
theorem checkStore_many {l : List Obj} (hn : 40 < l.length) : checkStore l = 2 := by unfold checkStore; rw [if_pos hn]
theorem scan_rising {l : List Obj} {n : Nat} (hn : n ≤ l.length) (h : scan (objErr l) n = 0) : Rising (l.take n) :=
 rising_take (rising_of_next hn fun i hi => by
  have := (objErr_zero (scan_zero h (i + 1) hi)).2.1 (by omega)
  simpa using this)
theorem scan_kind {l : List Obj} {n : Nat} (hn : n ≤ l.length) (h : scan (objErr l) n = 0) (id : Int) : kindOf (l.take n) id = 0 ∨ kindOf (l.take n) id = 1 ∨ kindOf (l.take n) id = 2 ∨ kindOf (l.take n) id = 3 := by
 unfold kindOf
 cases hf : (l.take n).find? (fun o => o.id == id) with
 | none => exact .inl rfl
 | some o =>
  have hm := List.mem_of_find?_eq_some hf
  obtain ⟨i, hi, rfl⟩ := List.getElem_of_mem hm
  simp at hi
  have h1 := (objErr_zero (scan_zero h i (by omega))).1
  rw [obj_lt (by omega)] at h1
  obtain ⟨_, h2, _⟩ := checkObj_ok h1
  simp only [List.getElem_take]
  omega
theorem checkStore_zero {l : List Obj} (h : checkStore l = 0) : l.length ≤ 40 ∧ scan (objErr l) l.length = 0 := by
 unfold checkStore at h
 by_cases h1 : 40 < l.length
 ·rw [if_pos h1] at h; exact absurd h (by decide)
 ·rw [if_neg h1] at h; exact ⟨by omega, h⟩
theorem checkStore_rising {l : List Obj} (h : checkStore l = 0) : Rising l := by
 have := scan_rising (Nat.le_refl _) (checkStore_zero h).2
 rwa [List.take_length] at this
end Go.Proofs.YtjdgpgfiomnjkaaGreatDoor
namespace Go.Proofs.YtjdgpgfiomnjkaaGreatDoor
open Go.RowKit
set_option linter.unusedVariables false
set_option linter.unusedSimpArgs false
set_option linter.unusedSectionVars false
variable [Ghost]
def follow (o : Obj) (par : Bool) : List Int := if par then o.links.drop 1 else o.links
def edgeB (l : List Obj) (par : Bool) (i j : Nat) : Bool := decide (j < l.length) && (follow (obj l i) par).any (fun x => x == (obj l j).id)
inductive Rch (l : List Obj) (par : Bool) : Nat → Nat → Prop
 | refl (i : Nat) : Rch l par i i
 | step {i j k : Nat} : edgeB l par i j = true → Rch l par j k → Rch l par i k
theorem Rch.trans {l : List Obj} {par : Bool} {i j k : Nat} (h : Rch l par i j) (h' : Rch l par j k) : Rch l par i k := by
 induction h with
 | refl => exact h'
 | step e _ ih => exact .step e (ih h')
theorem Rch.snoc {l : List Obj} {par : Bool} {i j k : Nat} (h : Rch l par i j) (e : edgeB l par j k = true) : Rch l par i k := h.trans (.step e (.refl _))
structure Right (l : List Obj) : Prop where
 rising : Rising l
 each : ∀ i, i < l.length → checkObj (obj l i) = 0
 link : ∀ i, i < l.length → ∀ k, k < (obj l i).links.length → linkErr (obj l i) k (kindOf (l.take i) (nth (obj l i).links k)) = 0
 many : l.length ≤ 40
theorem right_of {l : List Obj} (h : checkStore l = 0) : Right l := by
 obtain ⟨h1, h2⟩ := checkStore_zero h
 exact ⟨checkStore_rising h, fun i hi => (objErr_zero (scan_zero h2 i hi)).1, fun i hi => (objErr_zero (scan_zero h2 i hi)).2.2, h1⟩
theorem kind_place {l : List Obj} {id : Int} (h : kindOf l id ≠ 0) : ∃ j, j < l.length ∧ (obj l j).id = id ∧ kindOf l id = (obj l j).kind := by
 unfold kindOf at h ⊢
 cases hf : l.find? (fun o => o.id == id) with
 | none => rw [hf] at h; exact absurd rfl h
 | some o =>
  have h1 := List.mem_of_find?_eq_some hf
  have h2 := List.find?_some hf
  obtain ⟨j, hj, rfl⟩ := List.getElem_of_mem h1
  exact ⟨j, hj, by rw [obj_lt hj]; simpa using h2, by rw [obj_lt hj]⟩
theorem Right.linked {l : List Obj} (h : Right l) {i k : Nat} (hi : i < l.length) (hk : k < (obj l i).links.length) :
  ∃ j, j < i ∧ (obj l j).id = nth (obj l i).links k ∧ linkErr (obj l i) k (obj l j).kind = 0 := by
 have h1 := h.link i hi k hk
 have hne : kindOf (l.take i) (nth (obj l i).links k) ≠ 0 := fun e => by rw [e] at h1; exact absurd h1 (by unfold linkErr; simp)
 obtain ⟨j, hj, hid, hkd⟩ := kind_place hne
 have hji : j < i := by simp at hj; omega
 rw [obj_take hji] at hid hkd
 exact ⟨j, hji, hid, by rw [hkd] at h1; exact h1⟩
theorem Rising.inj {l : List Obj} (h : Rising l) {i j : Nat} (hi : i < l.length) (hj : j < l.length) (e : (obj l i).id = (obj l j).id) : i = j := by
 rcases Nat.lt_trichotomy i j with h1 | h1 | h1
 ·have := h i j h1 hj; omega
 ·exact h1
 ·have := h j i h1 hi; omega
theorem Rising.lo_self {l : List Obj} (h : Rising l) {i : Nat} (hi : i < l.length) : lo l (obj l i).id = i :=
 lo_eq (Nat.le_of_lt hi) (fun j hj => h j i hj hi) (fun j hij hj => by
  rcases Nat.lt_or_ge i j with h' | h'
  ·have := h i j h' hj; omega
  ·have e : j = i := by omega
   subst e; omega)
theorem Rising.isAt_self {l : List Obj} (h : Rising l) {i : Nat} (hi : i < l.length) : isAt l (obj l i).id = true := by
 unfold isAt; rw [h.lo_self hi]; simp [hi]
theorem Rising.at_self {l : List Obj} (h : Rising l) {i : Nat} (hi : i < l.length) : atOf l (obj l i).id = i := by
 rw [h.at_, h.isAt_self hi, h.lo_self hi]; rfl
theorem follow_mem {o : Obj} {par : Bool} {x : Int} (h : x ∈ follow o par) : ∃ k, k < o.links.length ∧ x = nth o.links k ∧ (par = true → 0 < k) := by
 cases par
 ·obtain ⟨k, hk, rfl⟩ := List.getElem_of_mem (show x ∈ o.links from h)
  exact ⟨k, hk, by rw [nth_lt hk], fun e => by cases e⟩
 ·have h' : x ∈ o.links.drop 1 := h
  obtain ⟨k, hk, rfl⟩ := List.getElem_of_mem h'
  simp at hk
  exact ⟨k + 1, by omega, by rw [nth_lt (by omega), List.getElem_drop]; congr 1; omega, fun _ => by omega⟩
theorem Right.edge_lt {l : List Obj} (h : Right l) {par : Bool} {i j : Nat} (hi : i < l.length) (e : edgeB l par i j = true) : j < i := by
 simp only [edgeB, Bool.and_eq_true, decide_eq_true_eq, List.any_eq_true, beq_iff_eq] at e
 obtain ⟨hj, x, hx, hxe⟩ := e
 obtain ⟨k, hk, rfl, _⟩ := follow_mem hx
 obtain ⟨j', hj', hid, _⟩ := h.linked hi hk
 have := h.rising.inj hj (by omega) (hxe.symm.trans hid.symm)
 omega
theorem linkErr_commit {o : Obj} {k : Nat} {kind : Int} (h3 : o.kind = 3) : linkErr o k kind = if kind = 0 then 5 else if (kind = 2 ∧ k = 0) ∨ (kind = 3 ∧ 0 < k) then 0 else 7 := by
 unfold linkErr; simp [h3]
theorem Right.edge_kind {l : List Obj} (h : Right l) {i j : Nat} (hi : i < l.length) (hk : (obj l i).kind = 3) (e : edgeB l true i j = true) : (obj l j).kind = 3 := by
 simp only [edgeB, Bool.and_eq_true, decide_eq_true_eq, List.any_eq_true, beq_iff_eq] at e
 obtain ⟨hj, x, hx, hxe⟩ := e
 obtain ⟨k, hk', rfl, h0⟩ := follow_mem hx
 obtain ⟨j', hj', hid, hle⟩ := h.linked hi hk'
 have := h.rising.inj hj (by omega) (hxe.symm.trans hid.symm)
 subst this
 rw [linkErr_commit hk] at hle
 have h0' := h0 rfl
 by_cases h1 : (obj l j).kind = 0
 ·rw [if_pos h1] at hle; exact absurd hle (by decide)
 ·rw [if_neg h1] at hle
  by_cases h2 : ((obj l j).kind = 2 ∧ k = 0) ∨ ((obj l j).kind = 3 ∧ 0 < k)
  ·omega
  ·rw [if_neg h2] at hle; exact absurd hle (by decide)
def sweep (l : List Obj) (par : Bool) : Nat → (Nat → Bool) → (Nat → Bool)
 | 0, M => M
 | i + 1, M => sweep l par i (fun j => M j || (M i && edgeB l par i j))
def tipB (l : List Obj) (tips : List Int) (j : Nat) : Bool := tips.any (fun x => x == (obj l j).id)
def reachB (l : List Obj) (par : Bool) (tips : List Int) : Nat → Bool := sweep l par l.length (tipB l tips)
theorem sweep_iff {l : List Obj} (h : Right l) {par : Bool} : ∀ (n : Nat) (M : Nat → Bool), n ≤ l.length → (∀ a b, n ≤ a → a < l.length → M a = true → edgeB l par a b = true → M b = true) →
  ∀ j, j < l.length → (sweep l par n M j = true ↔ ∃ i, i < l.length ∧ M i = true ∧ Rch l par i j) := by
 intro n
 induction n with
 | zero =>
  intro M hn hcl j hj
  constructor
  ·intro e; exact ⟨j, hj, e, .refl _⟩
  ·rintro ⟨i, hi, hM, hr⟩
   show M j = true
   induction hr with
   | refl => exact hM
   | step e _ ih => exact ih hj (by have := h.edge_lt hi e; omega) (hcl _ _ (Nat.zero_le _) hi hM e)
 | succ n ih =>
  intro M hn hcl j hj
  have hcl' : ∀ a b, n ≤ a → a < l.length → (M a || (M n && edgeB l par n a)) = true → edgeB l par a b = true → (M b || (M n && edgeB l par n b)) = true := by
   intro a b hna ha hM e
   simp only [Bool.or_eq_true, Bool.and_eq_true] at hM ⊢
   rcases hM with hM | ⟨hM, e2⟩
   ·rcases Nat.lt_or_ge n a with h1 | h1
    ·exact .inl (hcl a b h1 ha hM e)
    ·have : a = n := by omega
     subst this; exact .inr ⟨hM, e⟩
   ·have := h.edge_lt (by omega) e2; omega
  rw [sweep, ih _ (by omega) hcl' j hj]
  constructor
  ·rintro ⟨i, hi, hM, hr⟩
   simp only [Bool.or_eq_true, Bool.and_eq_true] at hM
   rcases hM with hM | ⟨hM, e⟩
   ·exact ⟨i, hi, hM, hr⟩
   ·exact ⟨n, by omega, hM, .step e hr⟩
  ·rintro ⟨i, hi, hM, hr⟩
   exact ⟨i, hi, by simp [hM], hr⟩
theorem reach_iff {l : List Obj} (h : Right l) {par : Bool} {tips : List Int} {j : Nat} (hj : j < l.length) :
  reachB l par tips j = true ↔ ∃ i, i < l.length ∧ tipB l tips i = true ∧ Rch l par i j :=
 sweep_iff h l.length _ (Nat.le_refl _) (fun a b h1 h2 => by omega) j hj
def partOf (l : List Obj) (tips : List Int) : List Obj := ((List.range l.length).filter (reachB l false tips)).map (obj l)
def thereErr (l : List Obj) (ids : List Int) : Int := if checkStore l ≠ 0 then checkStore l else if ids.any (fun x => kindOf l x == 0) then 5 else 0
def behindErr (l : List Obj) (old newer : Int) : Int :=
 if thereErr l [old, newer] ≠ 0 then thereErr l [old, newer] else if kindOf l old ≠ 3 ∨ kindOf l newer ≠ 3 then 7 else 0
def behindB (l : List Obj) (old newer : Int) : Bool := reachB l true [newer] (atOf l old).toNat
end Go.Proofs.YtjdgpgfiomnjkaaGreatDoor
namespace Go.Proofs.YtjdgpgfiomnjkaaGreatDoor
open Go.RowKit
set_option linter.unusedVariables false
set_option linter.unusedSimpArgs false
set_option linter.unusedSectionVars false
variable [Ghost]
structure Rf where
 name : ByteArray
 id : Int
def rf0 : Rf := ⟨ByteArray.empty, 0⟩
def rf (l : List Rf) (i : Nat) : Rf := at_ rf0 l i
theorem rf_lt {l : List Rf} {i : Nat} (h : i < l.length) : rf l i = l[i] := at_lt h
def RefsV (S : Nat → Prop) (w : World) (v : Value) (l : List Rf) : Prop :=
 Sl S w v 2 24 l.length (fun i => [.string (rf l i).name, .int .i64 (rf l i).id]) ∧ ∀ r ∈ l, I64 r.id ∧ r.name.size ≤ 140737488351232
theorem RefsV.below {S : Nat → Prop} {w w' : World} {v : Value} {l : List Rf} (h : RefsV S w v l) (hb : Below w.heap.size w w') : RefsV S w' v l := ⟨h.1.below hb, h.2⟩
theorem RefsV.weaken {S S' : Nat → Prop} {w : World} {v : Value} {l : List Rf} (h : RefsV S w v l) (hs : ∀ b, S b → S' b) : RefsV S' w v l := ⟨h.1.weaken hs, h.2⟩
theorem RefsV.same {S : Nat → Prop} {w w' : World} {v : Value} {l : List Rf} (h : RefsV S w v l) (hs : SameOn S w w') : RefsV S w' v l := ⟨h.1.same hs, h.2⟩
theorem RefsV.nil (S : Nat → Prop) (w : World) (cap : Nat) (a : Option Addr) (h : cap ≤ 9223372036854775807) : RefsV S w (.slice a 0 cap) [] :=
 ⟨⟨a, cap, rfl, Nat.zero_le _, h, by simp, fun h => absurd h (by simp)⟩, fun x hx => by cases hx⟩
theorem RefsV.shape {S : Nat → Prop} {w : World} {v : Value} {l : List Rf} (h : RefsV S w v l) : ∃ p : Option Addr × Nat, v = .slice p.1 l.length p.2 :=
 let ⟨a, cap, hv, _⟩ := h.1; ⟨(a, cap), hv⟩
theorem RefsV.each {S : Nat → Prop} {w : World} {v : Value} {l : List Rf} (h : RefsV S w v l) {i : Nat} (hi : i < l.length) : I64 (rf l i).id ∧ (rf l i).name.size ≤ 140737488351232 := h.2 _ (at_mem hi)
theorem RefsV.open {S : Nat → Prop} {w : World} {v : Value} {l : List Rf} (h : RefsV S w v l) :
  ∃ a n cap, Hid (n = l.length) ∧ v = .slice a n cap ∧ n ≤ cap ∧ cap ≤ 9223372036854775807 ∧ n * 24 ≤ 140737488351232 ∧
   (0 < n → ∃ b off, a = some ⟨b, off, none⟩ ∧ S b ∧
    (∀ i x, i < n → Below w.heap.size w x → x.cell? ⟨b, off + i * 2, none⟩ = some (.string (rf l i).name)) ∧
    (∀ i x, i < n → Below w.heap.size w x → x.cell? ⟨b, off + i * 2 + 1, none⟩ = some (.int .i64 (rf l i).id))) ∧
   (∀ i, i < n → I64 (rf l i).id ∧ (rf l i).name.size ≤ 140737488351232) := by
 have he := fun i (hi : i < l.length) => h.each hi
 obtain ⟨⟨a, cap, hv, h1, h2, h3, h4⟩, h5⟩ := h
 refine ⟨a, l.length, cap, rfl, hv, h1, h2, h3, fun hn => ?_, he⟩
 obtain ⟨b, off, ha, hS, hc⟩ := h4 hn
 refine ⟨b, off, ha, hS.1, fun i x hi hb => ?_, fun i x hi hb => ?_⟩
 ·have := below_cell hb (hc i hi 0 _ rfl); simpa using this
 ·exact below_cell hb (hc i hi 1 _ rfl)
def signB (c : Int) : Bool := (decide (97 ≤ c) && decide (c ≤ 122)) || (decide (48 ≤ c) && decide (c ≤ 57)) || (c == 45)
def ahead (s : ByteArray) (i : Nat) : Int := if i = 0 then 47 else byt s (i - 1)
def badAt (s : ByteArray) (i : Nat) : Bool := !signB (byt s i) && (byt s i != 47 || ahead s i == 47)
def nameErr (s : ByteArray) : Int :=
 if 12 < s.size then 2
 else if scan (fun i => if badAt s i then 1 else 0) s.size ≠ 0 then 1
 else if ahead s s.size = 47 then 1 else 0
theorem ahead_next (s : ByteArray) (i : Nat) : ahead s (i + 1) = byt s i := by simp [ahead]
theorem nameErr_many {s : ByteArray} (h : 12 < s.size) : nameErr s = 2 := by unfold nameErr; rw [if_pos h]
theorem scan_ne {f : Nat → Int} {k n : Nat} (hk : k < n) (hf : f k ≠ 0) : scan f n ≠ 0 := fun h => hf (scan_zero h k hk)
theorem nameErr_bad {s : ByteArray} {i : Nat} (h : s.size ≤ 12) (hi : i < s.size) (hb : badAt s i = true) : nameErr s = 1 := by
 unfold nameErr; rw [if_neg (by omega), if_pos (scan_ne hi (by simp [hb]))]
theorem nameErr_slash {s : ByteArray} (h : s.size ≤ 12) (ha : ahead s s.size = 47) : nameErr s = 1 := by
 unfold nameErr; rw [if_neg (by omega)]; split
 ·rfl
 ·rfl
theorem nameErr_ok {s : ByteArray} (h : s.size ≤ 12) (hb : ∀ i, i < s.size → badAt s i = false) (ha : ahead s s.size ≠ 47) : nameErr s = 0 := by
 unfold nameErr; rw [if_neg (by omega), if_neg, if_neg ha]
 simp only [ne_eq, Decidable.not_not]
 exact scan_of_zero fun i hi => by simp [hb i hi]
def badAt' (s : ByteArray) (i : Nat) : Bool :=
 (!within (byt s i) 97 122 && !within (byt s i) 48 57 && byt s i != 45 && byt s i != 47) || (byt s i == 47 && byt s (i - 1) == 47)
theorem badAt_same {s : ByteArray} {i : Nat} (h : i = 0 → byt s 0 ≠ 47) : badAt' s i = badAt s i := by
 unfold badAt badAt' signB within ahead
 by_cases h0 : i = 0
 ·subst h0
  have := h rfl
  rw [Bool.eq_iff_iff]; simp; omega
 ·rw [Bool.eq_iff_iff]; simp [h0]; omega
theorem bad_slash0 {s : ByteArray} (h : byt s 0 = 47) : badAt s 0 = true := by
 unfold badAt signB ahead; simp [h]
theorem less_total (x y : List UInt8) : (Op.bytesLess x y || x == y) = !Op.bytesLess y x := by
 induction x generalizing y with
 | nil => cases y <;> simp [Op.bytesLess]
 | cons a x ih =>
  cases y with
  | nil => simp [Op.bytesLess]
  | cons b y =>
   have := ih y
   simp only [Op.bytesLess, List.cons_beq_cons]
   by_cases h1 : a < b
   ·have h2 : ¬ b < a := by simp only [UInt8.lt_iff_toNat_lt] at *; omega
    have h3 : (b == a) = false := by
     rw [beq_eq_false_iff_ne]; intro e; subst e; exact h2 h1
    simp [h1, h2, h3]
   ·by_cases h2 : b < a
    ·have h3 : (a == b) = false := by
      rw [beq_eq_false_iff_ne]; intro e; subst e; exact h1 h2
     simp [h1, h2, h3]
    ·have h3 : a = b := by
      apply UInt8.toNat_inj.1
      simp only [UInt8.lt_iff_toNat_lt] at *; omega
     subst h3
     simp [h1, this]
def strLt (a b : ByteArray) : Bool := Op.bytesLess a.toList b.toList
theorem strLe (a b : ByteArray) : (Op.bytesLess a.toList b.toList || a.toList == b.toList) = !strLt b a := less_total _ _
def inPlace (a b : ByteArray) : Bool := decide (a.size < b.size) && ((b.extract 0 a.size).toList == a.toList) && (byt b a.size == 47)
theorem prefix_slash (a b : ByteArray) : (decide ((a ++ ⟨#[47]⟩).size ≤ b.size) && ((b.extract 0 (a ++ ⟨#[47]⟩ : ByteArray).size).toList == (a ++ ⟨#[47]⟩ : ByteArray).toList)) = inPlace a b := by
 have hsz : (a ++ ⟨#[47]⟩ : ByteArray).size = a.size + 1 := by rw [ByteArray.size_append]; rfl
 unfold inPlace
 rw [hsz]
 by_cases h : a.size < b.size
 ·have h1 : a.size + 1 ≤ b.size := h
  simp only [h, h1, decide_true, Bool.true_and]
  rw [Bool.eq_iff_iff]
  simp only [Bool.and_eq_true, beq_iff_eq]
  rw [ByteArray.toList_eq, ByteArray.toList_eq, ByteArray.toList_eq, ByteArray.toList_eq]
  have e1 : (b.extract 0 (a.size + 1)).data.toList = b.data.toList.take (a.size + 1) := by rw [Lib.extract_data]; simp
  have e2 : (b.extract 0 a.size).data.toList = b.data.toList.take a.size := by rw [Lib.extract_data]; simp
  have e3 : (a ++ ⟨#[47]⟩ : ByteArray).data.toList = a.data.toList ++ [47] := by simp
  have hb : a.size < b.data.toList.length := by simpa using h
  have hal : a.data.toList.length = a.size := by simp
  rw [e1, e2, e3, List.take_succ_eq_append_getElem hb]
  have hby : byt b a.size = 47 ↔ b.data.toList[a.size] = 47 := by
   unfold byt
   rw [List.getD_eq_getElem?_getD, List.getElem?_eq_getElem hb]
   simp only [Option.getD_some]
   constructor
   ·intro e; apply UInt8.toNat_inj.1; have : (47 : UInt8).toNat = 47 := rfl; omega
   ·intro e; rw [e]; rfl
  rw [hby]
  constructor
  ·intro e
   have := List.append_inj e (by simp at hb ⊢; omega)
   exact ⟨this.1, by simpa using this.2⟩
  ·rintro ⟨e, f⟩; rw [e, f]
 ·have h1 : ¬ a.size + 1 ≤ b.size := by omega
  simp [h, h1]
def findRf (l : List Rf) (s : ByteArray) : Int := match l.findIdx? (fun r => r.name.toList == s.toList) with | some i => (i : Int) | none => -1
theorem findRf_hit {l : List Rf} {s : ByteArray} {k : Nat} (h : ∀ j, j < k → ((rf l j).name.toList == s.toList) = false) (hk : k < l.length) (he : ((rf l k).name.toList == s.toList) = true) : findRf l s = k := by
 unfold findRf
 have : l.findIdx? (fun r => r.name.toList == s.toList) = some k := by
  rw [List.findIdx?_eq_some_iff_getElem]
  refine ⟨hk, by rw [← rf_lt hk]; exact he, fun j hj => ?_⟩
  have := h j hj
  rw [rf_lt (by omega)] at this
  simp [this]
 rw [this]
theorem findRf_none {l : List Rf} {s : ByteArray} (h : ∀ j, j < l.length → ((rf l j).name.toList == s.toList) = false) : findRf l s = -1 := by
 unfold findRf
 have : l.findIdx? (fun r => r.name.toList == s.toList) = none := by
  rw [List.findIdx?_eq_none_iff]
  intro x hx
  obtain ⟨i, hi, rfl⟩ := List.getElem_of_mem hx
  have := h i hi
  rwa [rf_lt hi] at this
 rw [this]
theorem findRf_cases (l : List Rf) (s : ByteArray) : findRf l s = -1 ∨ ∃ k, k < l.length ∧ findRf l s = (k : Int) ∧ (rf l k).name = s := by
 unfold findRf
 cases h : l.findIdx? (fun r => r.name.toList == s.toList) with
 | none => exact .inl rfl
 | some k =>
  rw [List.findIdx?_eq_some_iff_getElem] at h
  obtain ⟨hk, he, _⟩ := h
  refine .inr ⟨k, hk, rfl, ?_⟩
  rw [rf_lt hk]
  rw [text_eq] at he
  simpa using he
def commitErr (objs : List Obj) (id : Int) : Int := if kindOf objs id = 0 then 5 else if kindOf objs id = 3 then 0 else 7
def refErr (l : List Rf) (objs : List Obj) (i : Nat) : Int :=
 if nameErr (rf l i).name ≠ 0 then nameErr (rf l i).name
 else if 0 < i ∧ strLt (rf l (i - 1)).name (rf l i).name = false then 4
 else commitErr objs (rf l i).id
def pairErr (l : List Rf) (i k : Nat) : Int := if inPlace (rf l i).name (rf l k).name then 6 else 0
def rightErr (l : List Rf) (objs : List Obj) : Int :=
 if 8 < l.length then 2
 else if scan (refErr l objs) l.length ≠ 0 then scan (refErr l objs) l.length
 else scan (fun i => scan (pairErr l i) l.length) l.length
def checkRefs (l : List Rf) (objs : List Obj) : Int := if checkStore objs ≠ 0 then checkStore objs else rightErr l objs
theorem rightErr_ref {l : List Rf} {objs : List Obj} {i : Nat} {e : Int} (hn : l.length ≤ 8) (h0 : scan (refErr l objs) i = 0) (hi : i < l.length) (he : refErr l objs i = e) (hne : e ≠ 0) : rightErr l objs = e := by
 have := scan_hit h0 (by rw [he]; exact hne) hi
 unfold rightErr; rw [if_neg (by omega), this, he, if_pos hne]
theorem rightErr_pair {l : List Rf} {objs : List Obj} {i k : Nat} (hn : l.length ≤ 8) (h0 : scan (refErr l objs) l.length = 0) (hi : i < l.length) (hk : k < l.length) (h : inPlace (rf l i).name (rf l k).name = true) : rightErr l objs = 6 := by
 unfold rightErr; rw [if_neg (by omega), h0, if_neg (by simp)]
 have hin : ∀ m n, scan (pairErr l m) n = 0 ∨ scan (pairErr l m) n = 6 := fun m n => by
  induction n with
  | zero => exact .inl rfl
  | succ n ih =>
   unfold scan
   rcases ih with ih | ih
   ·rw [ih, if_pos rfl]; unfold pairErr; split <;> simp
   ·rw [ih, if_neg (by decide)]; exact .inr rfl
 have hout : ∀ n, scan (fun i => scan (pairErr l i) l.length) n = 0 ∨ scan (fun i => scan (pairErr l i) l.length) n = 6 := fun n => by
  induction n with
  | zero => exact .inl rfl
  | succ n ih =>
   unfold scan
   rcases ih with ih | ih
   ·rw [ih, if_pos rfl]; exact hin _ _
   ·rw [ih, if_neg (by decide)]; exact .inr rfl
 rcases hout l.length with h1 | h1
 ·exact absurd (scan_zero h1 i hi) (scan_ne hk (by simp [pairErr, h]))
 ·exact h1
theorem rightErr_ok {l : List Rf} {objs : List Obj} (hn : l.length ≤ 8) (h0 : scan (refErr l objs) l.length = 0) (h : ∀ i k, i < l.length → k < l.length → inPlace (rf l i).name (rf l k).name = false) : rightErr l objs = 0 := by
 unfold rightErr; rw [if_neg (by omega), h0, if_neg (by simp)]
 exact scan_of_zero fun i hi => scan_of_zero fun k hk => by simp [pairErr, h i k hi hk]
theorem rightErr_many {l : List Rf} {objs : List Obj} (hn : 8 < l.length) : rightErr l objs = 2 := by unfold rightErr; rw [if_pos hn]
end Go.Proofs.YtjdgpgfiomnjkaaGreatDoor
namespace Go.Proofs.YtjdgpgfiomnjkaaGreatDoor
open Go.RowKit
set_option linter.unusedVariables false
set_option linter.unusedSectionVars false
variable [Ghost]
section
variable {P : Program} {ops : Array Oper} {Q : Exit → Act → World → Prop} {md : Region.Mode} {fuel : Nat} {listed : Array Bool} {a : Act} {w : World}
theorem any_start {id n : Nat} {a : Act} {w : World} (hm : P.follows .mixedOrders = true) (hn : ops.size = n)
  (h : wpAny P .any ops Q n (Array.replicate n false) a w.drew) : (Code.region id ops true).wp P Q a w := by
 subst hn; exact wp_region_any hm h
theorem any_one (i : Nat) {o : Oper} (hr : Region.ready md ops listed = [i]) (ho : ops[i]? = some o) (hw : Region.wanted o (yielded ops a.tmps) = true)
  (h : ∀ K : Act → World → Prop, (∀ a w, wpAny P md ops Q fuel (listed.setIfInBounds i true) a w → K a w) → o.wp P a w K Q) : wpAny P md ops Q (fuel + 1) listed a w := by
 refine ⟨fun h0 => absurd (hr.symm.trans h0) (by simp), fun j hj => ?_⟩
 rw [hr] at hj
 obtain rfl : j = i := by simpa using hj
 unfold wpOp
 simp only [ho, hw, if_true]
 exact .inl (h _ fun _ _ h => h)
theorem any_take (i : Nat) {o : Oper} (v : Value) (ho : ops[i]? = some o) (hs : Region.noSelect ops = true) (hf : Region.free md ops listed i = true) (hr : (Region.ready md ops listed).contains i = true)
  (hQ : ∀ c a w, Q (.panic c) (a.put o.dst v) w → Q (.panic c) a w) (hw : Region.wanted o (yielded ops a.tmps) = true) (hy : ∀ w, (execOp a.eval o).run P w = .ok (.value v) w)
  (h : wpAny P md ops Q fuel (listed.setIfInBounds i true) (a.put o.dst v) w) : wpAny P md ops Q (fuel + 1) listed a w :=
 wpAny_first ho (Region.noSelect_spec hs) hQ fuel listed a w (Region.free_spec ho hf) (by simpa using hr) (.inl ⟨hw, hy⟩) h
theorem any_two (i j : Nat) (hr : Region.ready md ops listed = [i, j]) (h1 : wpOp P ops Q i (wpAny P md ops Q fuel (listed.setIfInBounds i true)) a w)
  (h2 : wpOp P ops Q j (wpAny P md ops Q fuel (listed.setIfInBounds j true)) a w) : wpAny P md ops Q (fuel + 1) listed a w := by
 refine ⟨fun h0 => absurd (hr.symm.trans h0) (by simp), fun k hk => ?_⟩
 rw [hr] at hk
 rcases List.mem_cons.1 hk with rfl | hk
 ·exact h1
 ·obtain rfl : k = j := by simpa using hk
  exact h2
theorem op_do {i : Nat} {o : Oper} {K : Act → World → Prop} (ho : ops[i]? = some o) (hw : Region.wanted o (yielded ops a.tmps) = true)
  (h : ∀ K' : Act → World → Prop, (∀ a w, K a w → K' a w) → o.wp P a w K' Q) : wpOp P ops Q i K a w := by
 unfold wpOp
 simp only [ho, hw, if_true]
 exact .inl (h _ fun _ _ h => h)
theorem any_done {fuel : Nat} (hr : Region.ready md ops listed = []) (h : Q .normal a w) : wpAny P md ops Q fuel listed a w := by
 cases fuel with
 | zero => exact ⟨hr, h⟩
 | succ n => exact ⟨fun _ => h, by rw [hr]; simp⟩
end
end Go.Proofs.YtjdgpgfiomnjkaaGreatDoor
namespace Go.Proofs.YtjdgpgfiomnjkaaGreatDoor
open Go.RowKit
set_option linter.unusedVariables false
set_option linter.unusedSimpArgs false
set_option linter.unusedSectionVars false
variable [Ghost]
structure Fact where
 holds : Value → World → Prop
 mono : ∀ v x y, holds v x → Below x.heap.size x y → holds v y
def Fact.is (v0 : Value) : Fact := ⟨fun v _ => v = v0, fun _ _ _ h _ => h⟩
def Fact.any : Fact := ⟨fun _ _ => True, fun _ _ _ _ _ => trivial⟩
def waits (ops : Array Oper) (o : Oper) : List (Nat × Option Tmp) :=
 (o.after.toList.filter fun e => Region.binds .any e).map fun e => (e.on, (ops[e.on]?).bind (·.dst))
def slots (ops : Array Oper) : List (Nat × Option Tmp) := (List.range ops.size).map fun j => (j, (ops[j]?).bind (·.dst))
def puts (a : Act) (vals : Nat → Value) : List (Nat × Option Tmp) → Act
 | [] => a
 | jd :: js => puts (a.put jd.2 (vals jd.1)) vals js
def Holds (Φ : Nat → Fact) (vals : Nat → Value) (x : World) : List (Nat × Option Tmp) → Prop
 | [] => True
 | jd :: js => (Φ jd.1).holds (vals jd.1) x ∧ Holds Φ vals x js
def slotOf (d : Option Tmp) (a : Act) : Value := match d with | some d => a.eval (.tmp d) | none => undef
def isDefer : Op → Bool
 | .defer _ => true
 | .select .. => true
 | _ => false
def laterB (ops : Array Oper) (i j : Nat) : Bool := j == i || match ops[j]? with
 | some o => (waits ops o).any fun jd => jd.1 == i
 | none => false
def fitB (ops : Array Oper) (i : Nat) (o : Oper) (js : List (Nat × Option Tmp)) : Bool :=
 (o.looksAt ops).all (fun t => (List.range ops.size).all fun j => (ops[j]?).bind (·.dst) != some t || js.contains (j, some t) || laterB ops i j) && js.all (fun jd => (waits ops o).contains jd)
def flowOk (ops : Array Oper) (n : Nat) : Bool :=
 (List.range ops.size).all fun i => match ops[i]? with
  | none => true
  | some o => !isDefer o.op && (match o.dst with | some d => decide (d < n) | none => true) &&
   ((List.range ops.size).all fun j => j == i || o.dst.isNone || (ops[j]?).bind (·.dst) != o.dst) &&
   (waits ops o).all fun jd => decide (jd.1 < i)
section
variable {P : Program} {ops : Array Oper} {Q : Exit → Act → World → Prop} {a0 : Act} {R : World → Prop} {Φ : Nat → Fact}
theorem puts_size (vals : Nat → Value) : ∀ (js : List (Nat × Option Tmp)) (a : Act), (puts a vals js).tmps.size = a.tmps.size
 | [], a => rfl
 | jd :: js, a => by
  rw [puts, puts_size vals js]
  cases h : jd.2 <;> simp [Act.put]
theorem puts_defers (vals : Nat → Value) : ∀ (js : List (Nat × Option Tmp)) (a : Act), (puts a vals js).defers = a.defers
 | [], a => rfl
 | jd :: js, a => by
  rw [puts, puts_defers vals js]
  cases h : jd.2 <;> simp [Act.put]
theorem puts_get (vals : Nat → Value) (t : Tmp) (v : Value) : ∀ (js : List (Nat × Option Tmp)) (a : Act), (∀ jd ∈ js, jd.2 = some t → vals jd.1 = v) →
  (puts a vals js).tmps[t]? = if (∃ jd ∈ js, jd.2 = some t) then (if t < a.tmps.size then some v else none) else a.tmps[t]?
 | [], a, _ => by simp [puts]
 | jd :: js, a, h => by
  rw [puts, puts_get vals t v js _ (fun x hx => h x (List.mem_cons_of_mem _ hx))]
  by_cases h1 : ∃ x ∈ js, x.2 = some t
  ·have h2 : ∃ x ∈ jd :: js, x.2 = some t := let ⟨x, hx, e⟩ := h1; ⟨x, List.mem_cons_of_mem _ hx, e⟩
   rw [if_pos h1, if_pos h2]
   cases e : jd.2 with
   | none => rfl
   | some d => simp [Act.put]
  ·rw [if_neg h1]
   by_cases h3 : jd.2 = some t
   ·have h2 : ∃ x ∈ jd :: js, x.2 = some t := ⟨jd, List.mem_cons_self, h3⟩
    rw [if_pos h2, ← h jd List.mem_cons_self h3, h3]
    simp [Act.put, Array.getElem?_setIfInBounds]
   ·have h2 : ¬ ∃ x ∈ jd :: js, x.2 = some t := by
     rintro ⟨x, hx, e⟩
     rcases List.mem_cons.1 hx with rfl | hx
     ·exact h3 e
     ·exact h1 ⟨x, hx, e⟩
    rw [if_neg h2]
    cases e : jd.2 with
    | none => rfl
    | some d =>
     have hne : d ≠ t := fun e' => h3 (by rw [e, e'])
     simp [Act.put, Array.getElem?_setIfInBounds_ne hne]
def StepOk (P : Program) (ops : Array Oper) (a0 : Act) (R : World → Prop) (Φ : Nat → Fact) (i : Nat) (o : Oper) (js : List (Nat × Option Tmp)) : Prop :=
 ∀ (vals : Nat → Value) (x : World), In R x → Holds Φ vals x js → ∀ K : Act → World → Prop,
  Hid (∀ a' x', a'.defers = (puts a0 vals js).defers → Below x.heap.size x x' → (Φ i).holds (slotOf o.dst a') x' → K a' x') →
  if Region.wanted o (yielded ops (puts a0 vals js).tmps) = true then Oper.wp P o (puts a0 vals js) x K (fun _ _ _ => False) else K ((puts a0 vals js).put o.dst undef) x
theorem flow_spec {n : Nat} (h : flowOk ops n = true) {i : Nat} {o : Oper} (ho : ops[i]? = some o) :
  isDefer o.op = false ∧ (∀ d, o.dst = some d → d < n) ∧ True ∧
  (∀ j d, j ≠ i → o.dst = some d → (ops[j]?).bind (·.dst) ≠ some d) ∧ ∀ jd ∈ waits ops o, jd.1 < i := by
 have hi : i < ops.size := (Array.getElem?_eq_some_iff.1 ho).1
 have h1 := List.all_eq_true.1 h i (List.mem_range.2 hi)
 simp only [ho, Bool.and_eq_true, Bool.not_eq_true'] at h1
 obtain ⟨⟨⟨h1, h2⟩, h4⟩, h5⟩ := h1
 refine ⟨h1, fun d hd => ?_, trivial, fun j d hj hd => ?_, fun jd hjd => ?_⟩
 ·rw [hd] at h2; simpa using h2
 ·intro e
  have h6 := List.all_eq_true.1 h4 j (List.mem_range.2 (by
   rcases Nat.lt_or_ge j ops.size with h | h
   ·exact h
   ·rw [Array.getElem?_eq_none h] at e; cases e))
  rw [e, hd] at h6
  simp [hj] at h6
 ·have := List.all_eq_true.1 h5 jd hjd
  simpa using this
theorem fit_spec {i : Nat} {o : Oper} {js : List (Nat × Option Tmp)} (h : fitB ops i o js = true) : (∀ t ∈ o.looksAt ops, ∀ j, (ops[j]?).bind (fun q : Oper => q.dst) = some t → (j, some t) ∈ js ∨ laterB ops i j = true) ∧ ∀ jd ∈ js, jd ∈ waits ops o := by
 unfold fitB at h
 rw [Bool.and_eq_true] at h
 refine ⟨fun t ht j hj => ?_, fun jd hjd => ?_⟩
 ·have h6 := List.all_eq_true.1 (List.all_eq_true.1 h.1 t ht) j (List.mem_range.2 (by
   rcases Nat.lt_or_ge j ops.size with h | h
   ·exact h
   ·rw [Array.getElem?_eq_none h] at hj; cases hj))
  rw [hj] at h6
  simpa using h6
 ·simpa using List.all_eq_true.1 h.2 jd hjd
structure FlowAt (ops : Array Oper) (a0 : Act) (Φ : Nat → Fact) (listed : Array Bool) (a : Act) (x : World) (vals : Nat → Value) : Prop where
 defers : a.defers = a0.defers
 size : a.tmps.size = a0.tmps.size
 here : ∀ j d, (ops[j]?).bind (·.dst) = some d → listed.getD j true = true → a.tmps[d]? = if d < a0.tmps.size then some (vals j) else none
 other : ∀ t, (∀ j, listed.getD j true = true → (ops[j]?).bind (·.dst) ≠ some t) → a.tmps[t]? = a0.tmps[t]?
 facts : ∀ j, j < ops.size → listed.getD j true = true → (Φ j).holds (vals j) x
 closed : ∀ j o, ops[j]? = some o → listed.getD j true = true → ∀ jd ∈ waits ops o, listed.getD jd.1 true = true
theorem holds_of {vals : Nat → Value} {x : World} : ∀ {js : List (Nat × Option Tmp)}, (∀ jd ∈ js, (Φ jd.1).holds (vals jd.1) x) → Holds Φ vals x js
 | [], _ => trivial
 | _ :: _, h => ⟨h _ List.mem_cons_self, holds_of fun jd hjd => h jd (List.mem_cons_of_mem _ hjd)⟩
theorem waits_ready {listed : Array Bool} {i : Nat} {o : Oper} (ho : ops[i]? = some o) (hr : i ∈ Region.ready .any ops listed) : ∀ jd ∈ waits ops o, listed.getD jd.1 false = true ∧ jd.2 = (ops[jd.1]?).bind (·.dst) := by
 obtain ⟨_, o', ho', hall⟩ := mem_ready.1 hr
 rw [ho] at ho'; cases ho'
 intro jd hjd
 unfold waits at hjd
 rw [List.mem_map] at hjd
 obtain ⟨e, he, rfl⟩ := hjd
 rw [List.mem_filter] at he
 exact ⟨hall e (Array.mem_toList_iff.1 he.1) (by simpa using he.2), rfl⟩
theorem getD_true_of {listed : Array Bool} {j : Nat} (h : listed.getD j false = true) : listed.getD j true = true := by
 rw [Array.getD_eq_getD_getElem?] at h ⊢
 cases e : listed[j]? with
 | none => rfl
 | some b => rw [e] at h; exact h
theorem FlowAt.same {n : Nat} (hok : flowOk ops n = true) {listed : Array Bool} {a : Act} {x : World} {vals : Nat → Value} (h : FlowAt ops a0 Φ listed a x vals) {i : Nat} {o : Oper} (ho : ops[i]? = some o)
  (hr : i ∈ Region.ready .any ops listed) {js : List (Nat × Option Tmp)} (hjs : fitB ops i o js = true) (t : Tmp) (ht : t ∈ o.looksAt ops) : (puts a0 vals js).tmps[t]? = a.tmps[t]? := by
 obtain ⟨h3, hsub⟩ := fit_spec hjs
 have hw := fun jd (hjd : jd ∈ js) => waits_ready ho hr jd (hsub jd hjd)
 have hl := (mem_ready.1 hr).1
 have huniq : ∀ j j' : Nat, (ops[j]?).bind (fun q : Oper => q.dst) = some t → (ops[j']?).bind (fun q : Oper => q.dst) = some t → j' = j := fun j j' hj hj' => by
  by_cases hne : j' = j
  ·exact hne
  ·obtain ⟨oj, hoj⟩ : ∃ oj, ops[j]? = some oj := by
    cases h : ops[j]? with
    | none => rw [h] at hj; cases hj
    | some oj => exact ⟨oj, rfl⟩
   exact absurd hj' ((flow_spec hok hoj).2.2.2.1 j' t hne (by rw [hoj] at hj; exact hj))
 have hout : (∀ jd ∈ js, jd.2 ≠ some t) → (∀ j : Nat, listed.getD j true = true → (ops[j]?).bind (fun q : Oper => q.dst) ≠ some t) → (puts a0 vals js).tmps[t]? = a.tmps[t]? := fun h1 h2 => by
  rw [puts_get vals t undef _ _ (fun jd hjd e => (h1 jd hjd e).elim), if_neg (by rintro ⟨jd, hjd, e⟩; exact h1 jd hjd e)]
  exact (h.other t h2).symm
 by_cases hj : ∃ j : Nat, (ops[j]?).bind (fun q : Oper => q.dst) = some t
 ·obtain ⟨j, hj⟩ := hj
  by_cases hm : (j, some t) ∈ js
  ·rw [puts_get vals t (vals j) _ _ (fun jd hjd e => by
    have e1 := (hw jd hjd).2
    rw [e] at e1
    rw [huniq j jd.1 hj e1.symm])]
   rw [if_pos ⟨_, hm, rfl⟩, h.here j t hj (getD_true_of (hw _ hm).1)]
  ·have hlat := (h3 t ht j hj).resolve_left hm
   refine hout (fun jd hjd e => hm ?_) (fun j' hlj' e => ?_)
   ·have e1 := (hw jd hjd).2
    rw [e] at e1
    rw [← huniq j jd.1 hj e1.symm, ← e]; exact hjd
   ·have e2 := huniq j j' hj e
    subst e2
    unfold laterB at hlat
    rw [Bool.or_eq_true] at hlat
    rcases hlat with hlat | hlat
    ·have : j' = i := by simpa using hlat
     subst this; rw [hl] at hlj'; cases hlj'
    ·cases hoj : ops[j']? with
     | none => rw [hoj] at hj; cases hj
     | some oj =>
      rw [hoj] at hlat
      obtain ⟨jd, hjd, e3⟩ := List.any_eq_true.1 hlat
      have := h.closed j' oj hoj hlj' jd hjd
      rw [show jd.1 = i by simpa using e3, hl] at this
      cases this
 ·exact hout (fun jd hjd e => hj ⟨jd.1, by rw [← (hw jd hjd).2]; exact e⟩) (fun j _ e => hj ⟨j, e⟩)
theorem eval_congr {a b : Act} (o : Oper) (h : ∀ t ∈ o.looksAt ops, b.tmps[t]? = a.tmps[t]?) : ∀ y ∈ o.op.operands, b.eval y = a.eval y := by
 intro y hy
 cases y with
 | tmp t =>
  have := h t (List.mem_append_left _ (List.mem_filterMap.2 ⟨.tmp t, by simpa using hy, rfl⟩))
  simp only [Act.eval, Array.getD_eq_getD_getElem?, this]
 | _ => rfl
theorem wanted_congr {a b : Act} (o : Oper) (h : ∀ t ∈ o.looksAt ops, b.tmps[t]? = a.tmps[t]?) : Region.wanted o (yielded ops b.tmps) = Region.wanted o (yielded ops a.tmps) := by
 unfold Region.wanted
 cases hg : o.guard with
 | none => rfl
 | some gw =>
  obtain ⟨g, want⟩ := gw
  have hy : yielded ops b.tmps g = yielded ops a.tmps g := by
   unfold yielded
   cases ht : (ops[g]?).bind (·.dst) with
   | none => rfl
   | some t =>
    have := h t (List.mem_append_right _ (by rw [hg]; simp [ht]))
    simp only [Option.bind_some, this]
  simp only [hy]
theorem wp_other {o : Oper} {a b : Act} {x : World} {Ψ : Value → World → Prop} (hb : ∀ d, o.dst = some d → d < b.tmps.size)
  (he : execOp b.eval o = execOp a.eval o) (h : Oper.wp P o b x (fun a' x' => a'.defers = b.defers ∧ Ψ (slotOf o.dst a') x') (fun _ _ _ => False)) :
  Oper.wp P o a x (fun a' x' => ∃ v, a' = a.put o.dst v ∧ Ψ v x') Q := by
 have hs : ∀ v x', Ψ (slotOf o.dst (b.put o.dst v)) x' → ∃ u, a.put o.dst v = a.put o.dst u ∧ Ψ u x' := fun v x' hv => by
  cases hdd : o.dst with
  | none => rw [hdd] at hv; exact ⟨undef, rfl, hv⟩
  | some d =>
   rw [hdd] at hv
   refine ⟨v, rfl, ?_⟩
   have e : slotOf (some d) (b.put (some d) v) = v := by simp [slotOf, Act.put, Act.eval, hb d hdd]
   rw [e] at hv; exact hv
 unfold Oper.wp at *
 rw [he] at h
 generalize hr : (execOp a.eval o).run P x = r at *
 cases r with
 | ok n w' =>
  cases n <;> simp only [Oper.upon] at h ⊢
  case value v => exact hs _ _ h.2
  case skip => exact hs _ _ h.2
  case defer d =>
   exfalso
   have h1 := h.1
   cases hdd : o.dst <;> rw [hdd] at h1 <;> simp [Act.put] at h1
  case enter f args =>
   refine Calls.mono h fun e w'' he => ?_
   cases e with
   | returned v => exact hs _ _ he.2
   | panicked c => exact he.elim
   | outgrown => obtain ⟨_, _, h⟩ := he; exact h.elim
  case row row args => exact Rows.mono h fun v w'' he => hs _ _ he.2
 | halt y w' =>
  cases y <;> simp only [Oper.upon] at h
theorem getD_set_same {listed : Array Bool} {i : Nat} (h : i < listed.size) : (listed.setIfInBounds i true).getD i true = true := by
 simp [Array.getD_eq_getD_getElem?, h]
theorem getD_set_iff {listed : Array Bool} {i j : Nat} (h : (listed.setIfInBounds i true).getD j true = true) : j = i ∨ listed.getD j true = true := by
 by_cases e : j = i
 ·exact .inl e
 ·rw [getD_set_ne true (fun e' => e e'.symm)] at h; exact .inr h
theorem getD_set_keep {listed : Array Bool} {i j : Nat} (h : listed.getD j true = true) : (listed.setIfInBounds i true).getD j true = true := by
 by_cases e : j = i
 ·subst e
  rcases Nat.lt_or_ge j listed.size with h' | h'
  ·exact getD_set_same h'
  ·rw [Array.getD_eq_getD_getElem?, Array.getElem?_eq_none (by simpa using h')]; rfl
 ·rw [getD_set_ne true (fun e' => e e'.symm)]; exact h
theorem FlowAt.next {listed : Array Bool} {a : Act} {x x' : World} {vals : Nat → Value} (h : FlowAt ops a0 Φ listed a x vals) {i : Nat} {o : Oper} {n : Nat} (hok : flowOk ops n = true) (ho : ops[i]? = some o)
  (hr : i ∈ Region.ready .any ops listed) (hb : Below x.heap.size x x') {v : Value} (hv : (Φ i).holds v x') :
  FlowAt ops a0 Φ (listed.setIfInBounds i true) (a.put o.dst v) x' (fun j => if j = i then v else vals j) := by
 obtain ⟨_, _, _, h4, _⟩ := flow_spec hok ho
 have hio : (ops[i]?).bind (·.dst) = o.dst := by rw [ho]; rfl
 have hl := (mem_ready.1 hr).1
 refine ⟨?_, ?_, fun j d hj hlj => ?_, fun t ht => ?_, fun j hj hlj => ?_, fun j oj hoj hlj jd hjd => ?_⟩
 ·rw [← h.defers]; cases o.dst <;> rfl
 ·rw [← h.size]; cases o.dst <;> simp [Act.put]
 ·by_cases e : j = i
  ·subst e
   rw [hio] at hj
   rw [hj, if_pos rfl, ← h.size]
   simp [Act.put, Array.getElem?_setIfInBounds]
  ·have hl2 := (getD_set_iff hlj).resolve_left e
   rw [if_neg e, ← h.here j d hj hl2]
   cases hd : o.dst with
   | none => rfl
   | some d' =>
    have hne : d' ≠ d := fun e' => by subst e'; exact h4 j d' e hd hj
    simp [Act.put, Array.getElem?_setIfInBounds_ne hne]
 ·have hlt : i < listed.size := by
   rcases Nat.lt_or_ge i listed.size with h | h
   ·exact h
   ·rw [Array.getD_eq_getD_getElem?, Array.getElem?_eq_none h] at hl; cases hl
  rw [← h.other t (fun j hj => ht j (by
   by_cases e : j = i
   ·subst e; exact getD_set_same hlt
   ·rw [getD_set_ne true (fun e' => e e'.symm)]; exact hj))]
  have h5 := ht i (getD_set_same hlt)
  rw [hio] at h5
  cases hd : o.dst with
  | none => rfl
  | some d' =>
   have hne : d' ≠ t := fun e' => h5 (by rw [hd, e'])
   simp [Act.put, Array.getElem?_setIfInBounds_ne hne]
 ·by_cases e : j = i
  ·subst e; rw [if_pos rfl]; exact hv
  ·rw [if_neg e]; exact (Φ j).mono _ _ _ (h.facts j hj ((getD_set_iff hlj).resolve_left e)) hb
 ·refine getD_set_keep ?_
  by_cases e : j = i
  ·subst e
   rw [ho] at hoj; cases hoj
   exact getD_true_of (waits_ready ho hr jd hjd).1
  ·exact h.closed j oj hoj ((getD_set_iff hlj).resolve_left e) jd hjd
theorem count_set {l : List Bool} : ∀ {i : Nat}, l[i]? = some false → (l.set i true).count false + 1 = l.count false := by
 induction l with
 | nil => intro i h; simp at h
 | cons b l ih =>
  intro i h
  cases i with
  | zero => simp at h; subst h; simp
  | succ i => have := ih (i := i) (by simpa using h); simp only [List.set_cons_succ, List.count_cons]; omega
theorem flow_any {n : Nat} (hok : flowOk ops n = true) (ha : a0.tmps.size = n) (hR : ∀ x y, In R x → Below x.heap.size x y → In R y)
  (steps : ∀ i o, ops[i]? = some o → ∃ js, fitB ops i o js = true ∧ StepOk P ops a0 R Φ i o js)
  (post : ∀ vals x, In R x → Holds Φ vals x (slots ops) → Q .normal (puts a0 vals (slots ops)) x) :
  ∀ (fuel : Nat) (listed : Array Bool) (a : Act) (x : World) (vals : Nat → Value), listed.size = ops.size → FlowAt ops a0 Φ listed a x vals → In R x → listed.toList.count false ≤ fuel →
   wpAny P .any ops Q fuel listed a x := by
 have hnone : ∀ (listed : Array Bool), Region.ready .any ops listed = [] → listed.size = ops.size → ∀ j, j < ops.size → listed.getD j true = true := by
  intro listed hr hs j
  induction j using Nat.strongRecOn with
  | ind j ih =>
   intro hj
   cases hl : listed.getD j true
   ·exfalso
    have ho : ops[j]? = some ops[j] := Array.getElem?_eq_getElem hj
    have h5 := (flow_spec hok ho).2.2.2.2
    have : j ∈ Region.ready .any ops listed := mem_ready.2 ⟨hl, _, ho, fun e he hb => by
     have hm : (e.on, (ops[e.on]?).bind (·.dst)) ∈ waits ops ops[j] := List.mem_map.2 ⟨e, List.mem_filter.2 ⟨Array.mem_toList_iff.2 he, hb⟩, rfl⟩
     have hlt := h5 _ hm
     have h6 := ih e.on hlt (by omega)
     rw [Array.getD_eq_getD_getElem?] at h6 ⊢
     cases e6 : listed[e.on]? with
     | none => rw [Array.getElem?_eq_none_iff] at e6; omega
     | some b => rw [e6] at h6; simpa using h6⟩
    rw [hr] at this
    cases this
   ·rfl
 have hend : ∀ (listed : Array Bool) (a : Act) (x : World) (vals : Nat → Value), listed.size = ops.size → FlowAt ops a0 Φ listed a x vals → In R x → Region.ready .any ops listed = [] → Q .normal a x := by
  intro listed a x vals hs h hx hr
  have hall := hnone listed hr hs
  have hslots : ∀ jd ∈ slots ops, jd.1 < ops.size ∧ jd.2 = (ops[jd.1]?).bind (·.dst) := fun jd hjd => by
   obtain ⟨j, hj, rfl⟩ := List.mem_map.1 hjd
   exact ⟨List.mem_range.1 hj, rfl⟩
  have hp := post vals x hx (holds_of fun jd hjd => h.facts _ (hslots jd hjd).1 (hall _ (hslots jd hjd).1))
  have e : puts a0 vals (slots ops) = a := by
   have e1 : (puts a0 vals (slots ops)).tmps = a.tmps := by
    apply Array.ext_getElem?
    intro t
    by_cases hj : ∃ j : Nat, (ops[j]?).bind (fun q : Oper => q.dst) = some t
    ·obtain ⟨j, hj⟩ := hj
     have hjs : j < ops.size := by
      rcases Nat.lt_or_ge j ops.size with h | h
      ·exact h
      ·rw [Array.getElem?_eq_none h] at hj; cases hj
     rw [puts_get vals t (vals j) _ _ (fun jd hjd e => by
      have e1 := (hslots jd hjd).2
      rw [e] at e1
      by_cases hne : jd.1 = j
      ·rw [hne]
      ·have := (flow_spec hok (Array.getElem?_eq_getElem hjs)).2.2.2.1 jd.1 t hne (by rw [Array.getElem?_eq_getElem hjs] at hj; exact hj)
       exact absurd e1.symm this)]
     rw [if_pos ⟨(j, some t), List.mem_map.2 ⟨j, List.mem_range.2 hjs, by rw [hj]⟩, rfl⟩, h.here j t hj (hall j hjs)]
    ·rw [puts_get vals t undef _ _ (fun jd hjd e => (hj ⟨jd.1, by rw [← (hslots jd hjd).2]; exact e⟩).elim), if_neg (by rintro ⟨jd, hjd, e⟩; exact hj ⟨jd.1, by rw [← (hslots jd hjd).2]; exact e⟩)]
     exact (h.other t (fun j _ e => hj ⟨j, e⟩)).symm
   have e2 : (puts a0 vals (slots ops)).defers = a.defers := by rw [puts_defers, h.defers]
   generalize puts a0 vals (slots ops) = b at *
   cases a; cases b; simp_all
  rw [e] at hp
  exact hp
 intro fuel
 induction fuel with
 | zero =>
  intro listed a x vals hs h hx hc
  have hr : Region.ready .any ops listed = [] := by
   apply List.eq_nil_iff_forall_not_mem.2
   intro i hi
   have hl := (mem_ready.1 hi).1
   have : false ∈ listed.toList := by
    rw [Array.getD_eq_getD_getElem?] at hl
    cases e : listed[i]? with
    | none => rw [e] at hl; cases hl
    | some b => rw [e] at hl; simp at hl; subst hl; exact Array.mem_toList_iff.2 (Array.mem_of_getElem? e)
   have := List.count_pos_iff.2 this
   omega
  exact ⟨hr, hend listed a x vals hs h hx hr⟩
 | succ fuel ih =>
  intro listed a x vals hs h hx hc
  refine ⟨fun hr => hend listed a x vals hs h hx hr, fun i hi => ?_⟩
  obtain ⟨hl, o, ho, _⟩ := mem_ready.1 hi
  have hw := waits_ready ho hi
  obtain ⟨js, hjs, hstep⟩ := steps i o ho
  have hsub := (fit_spec hjs).2
  have hsame := fun t ht => h.same hok ho hi hjs t ht
  have hst := hstep vals x hx (holds_of fun jd hjd => h.facts _ (by
   have := (flow_spec hok ho).2.2.2.2 jd (hsub jd hjd)
   have := (Array.getElem?_eq_some_iff.1 ho).1
   omega) (getD_true_of (hw jd (hsub jd hjd)).1))
  have hcount : (listed.setIfInBounds i true).toList.count false ≤ fuel := by
   have hli : listed.toList[i]? = some false := by
    rw [Array.getD_eq_getD_getElem?] at hl
    cases e : listed[i]? with
    | none => rw [e] at hl; cases hl
    | some b => rw [e] at hl; simp at hl; subst hl; simpa using e
   have := count_set hli
   rw [Array.toList_setIfInBounds]
   omega
  have hgo : ∀ v x', Below x.heap.size x x' → (Φ i).holds v x' → wpAny P .any ops Q fuel (listed.setIfInBounds i true) (a.put o.dst v) x' := fun v x' hb hv =>
   ih _ _ x' _ (by simpa using hs) (h.next hok ho hi hb hv) (hR _ _ hx hb) hcount
  unfold wpOp
  simp only [ho]
  rw [← wanted_congr o hsame]
  have hsz : ∀ d, o.dst = some d → d < (puts a0 vals js).tmps.size := fun d hd => by rw [puts_size, ha]; exact (flow_spec hok ho).2.1 d hd
  by_cases hwt : Region.wanted o (yielded ops (puts a0 vals js).tmps) = true
  ·rw [if_pos hwt]
   have h1 := hst (fun a' x' => a'.defers = (puts a0 vals js).defers ∧ (Below x.heap.size x x' ∧ (Φ i).holds (slotOf o.dst a') x')) (fun a' x' h1 h2 h3 => ⟨h1, h2, h3⟩)
   rw [if_pos hwt] at h1
   refine .inl (Oper.wp_mono (K := fun a' x' => ∃ v, a' = a.put o.dst v ∧ (Below x.heap.size x x' ∧ (Φ i).holds v x')) ?_ ?_)
   ·rintro a' x' ⟨v, rfl, h2, h3⟩
    exact hgo v x' h2 h3
   ·exact wp_other (Ψ := fun v x' => Below x.heap.size x x' ∧ (Φ i).holds v x') hsz (execOp_congr o (fun cs b e => by have := (flow_spec hok ho).1; rw [e] at this; cases this) (eval_congr o hsame)) h1
  ·rw [if_neg hwt]
   have h1 := hst (fun a' x' => Below x.heap.size x x' ∧ (Φ i).holds (slotOf o.dst a') x') (fun a' x' _ h2 h3 => ⟨h2, h3⟩)
   rw [if_neg hwt] at h1
   obtain ⟨h2, h3⟩ := h1
   cases hd : o.dst with
   | none =>
    rw [hd] at h3
    have := hgo undef x h2 h3
    rw [hd] at this
    exact this
   | some d =>
    have e : slotOf o.dst ((puts a0 vals js).put o.dst undef) = undef := by rw [hd]; simp [slotOf, Act.put, Act.eval, hsz d hd]
    rw [e] at h3
    have := hgo undef x h2 h3
    rw [hd] at this
    exact this
def Steps (P : Program) (ops : Array Oper) (a0 : Act) (R : World → Prop) (Φ : Nat → Fact) : Nat → List Oper → Prop
 | _, [] => True
 | i, o :: os => (∃ js, fitB ops i o js = true ∧ StepOk P ops a0 R Φ i o js) ∧ Steps P ops a0 R Φ (i + 1) os
theorem Steps.all {P : Program} {ops : Array Oper} {a0 : Act} {R : World → Prop} {Φ : Nat → Fact} : ∀ (l : List Oper) (i : Nat), Steps P ops a0 R Φ i l → ∀ j o, l[j]? = some o → ∃ js, fitB ops (i + j) o js = true ∧ StepOk P ops a0 R Φ (i + j) o js
 | [], _, _, j, o, h => by simp at h
 | o' :: os, i, ⟨h1, h2⟩, j, o, h => by
  cases j with
  | zero => simp at h; subst h; exact h1
  | succ j => have := Steps.all os (i + 1) h2 j o (by simpa using h); rw [show i + (j + 1) = i + 1 + j by omega]; exact this
theorem Steps.nil {i : Nat} : Steps P ops a0 R Φ i [] := trivial
theorem Steps.cons {i : Nat} {o : Oper} {os : List Oper} (js : List (Nat × Option Tmp)) (hjs : fitB ops i o js = true) (h : StepOk P ops a0 R Φ i o js) (hs : Steps P ops a0 R Φ (i + 1) os) : Steps P ops a0 R Φ i (o :: os) :=
 ⟨⟨js, hjs, h⟩, hs⟩
theorem wp_flow {w0 : World} {id n : Nat} {w : World} (hm : P.follows .mixedOrders = true) (hok : flowOk ops n = true) (ha : a0.tmps.size = n) (Φ : Nat → Fact) (hR : Cls w0 R) (hw : In R w)
  (sl : List (Nat × Option Tmp)) (hsl : slots ops = sl)
  (steps : Steps P ops a0 R Φ 0 ops.toList)
  (post : ∀ vals x, In R x → Holds Φ vals x sl → Q .normal (puts a0 vals sl) x) : (Code.region id ops true).wp P Q a0 w := by
 subst hsl
 refine wp_region_any hm (flow_any hok ha (fun x y hx hb => hR.next x y hx hb) (fun i o ho => ?_) post ops.size _ a0 w.drew (fun _ => undef) (by simp) ?_ (hR.drew _ hw) (by simp))
 ·have := Steps.all _ 0 steps i o (by simpa using ho)
  rwa [Nat.zero_add] at this
 ·have hf : ∀ j, (Array.replicate ops.size false).getD j true = true → ops.size ≤ j := fun j hj => by
   rcases Nat.lt_or_ge j ops.size with h | h
   ·rw [Array.getD_eq_getD_getElem?] at hj; simp [h] at hj
   ·exact h
  refine ⟨rfl, rfl, fun j d hj hl => ?_, fun t _ => rfl, fun j hj hl => absurd (hf j hl) (by omega), fun j o ho hl => absurd (hf j hl) (by have := (Array.getElem?_eq_some_iff.1 ho).1; omega)⟩
  rw [Array.getElem?_eq_none (hf j hl)] at hj
  cases hj
end
def facts (l : List Fact) (i : Nat) : Fact := l.getD i Fact.any
end Go.Proofs.YtjdgpgfiomnjkaaGreatDoor
namespace Go.Proofs.YtjdgpgfiomnjkaaGreatDoor
open Go.RowKit
set_option linter.unusedVariables false
set_option linter.unusedSimpArgs false
set_option linter.unusedSectionVars false
variable [Ghost]
structure Claim where
 is : World → Prop
 mono : ∀ x y, is x → Below x.heap.size x y → is y
def Keep : List Claim → World → Prop
 | [], _ => True
 | c :: cs, w => c.is w ∧ Keep cs w
theorem Keep.below : ∀ {cs : List Claim} {w x : World}, Keep cs w → Below w.heap.size w x → Keep cs x
 | [], _, _, _, _ => trivial
 | c :: cs, _, _, ⟨h, hs⟩, hb => ⟨c.mono _ _ h hb, Keep.below hs hb⟩
theorem Keep.alloc {cs : List Claim} {w : World} (h : Keep cs w) (o : Go.Obj) : Keep cs (w.alloc o) := h.below ((Below.refl _ _).alloc (Nat.le_refl _) _)
theorem Keep.drew {cs : List Claim} {w : World} (h : Keep cs w) : Keep cs w.drew := h.below (Below.refl _ _).drew
theorem Keep.drewN {cs : List Claim} {w : World} (h : Keep cs w) (n : Nat) : Keep cs (w.drewN n) := h.below (below_drewN w _ n (Below.refl _ _))
theorem Keep.push {c : Claim} {cs : List Claim} {w : World} (h : Keep cs w) (hc : c.is w) : Keep (c :: cs) w := ⟨hc, h⟩
abbrev cS (S : Nat → Prop) (v : Value) (l : List Obj) : Claim := ⟨fun x => StoreV S x v l, fun _ _ h hb => h.below hb⟩
abbrev cH (b : Nat) (o : Go.Obj) : Claim := ⟨fun x => x.heap[b]? = some o, fun x y h hb => (hb.block _ (lt_of_block h)).trans h⟩
end Go.Proofs.YtjdgpgfiomnjkaaGreatDoor
