
/- RestA: what can be spoilt, as one list; the middle of RestStores' drawn region. No program here. -/
import Derived.Test.YtjdgpgfiomnjkaaGreatDoorQ20
import Derived.Test.YtjdgpgfiomnjkaaGreatDoorQ21
namespace Go.Proofs.YtjdgpgfiomnjkaaGreatDoor
open Go.RowKit
set_option linter.unusedVariables false
set_option linter.unusedSimpArgs false
set_option linter.unusedSectionVars false
variable [Ghost]
inductive Sp where
 | rots (a : Option Addr) (n : Nat)
 | texts (a : Option Addr) (n sz j : Nat)
 | nums (a : Option Addr) (n : Nat)
 | box (b : Nat) (vs : List Value)
def Sp.is (N : Nat) (w : World) : Sp → Prop
 | .rots a n => Rots N w a n
 | .texts a n sz j => Texts N w a n sz j
 | .nums a n => Nums N w a n
 | .box b vs => ∀ j v, vs[j]? = some v → ∃ u, w.cell? ⟨b, j, none⟩ = some u ∧ Akin v u
def Sps (N : Nat) (w : World) (l : List Sp) : Prop := N ≤ w.heap.size ∧ ∀ s ∈ l, s.is N w
theorem Sp.spl {N : Nat} {w w' : World} (hs : Spl N w w') : ∀ {s : Sp}, s.is N w → s.is N w'
 | .rots _ _, h => Rots.spl h hs
 | .texts _ _ _ _, h => Texts.spl h hs
 | .nums _ _, h => Nums.spl h hs
 | .box _ _, h => fun j v hv => by
  obtain ⟨u, hu, hk⟩ := h j v hv
  obtain ⟨z, hz, h2⟩ := hs.cell _ _ _ hu
  exact ⟨z, hz, hk.trans h2⟩
theorem Sps.spl {N : Nat} {w w' : World} {l : List Sp} (h : Sps N w l) (hs : Spl N w w') : Sps N w' l := ⟨Nat.le_trans h.1 hs.below.size, fun s hm => Sp.spl hs (h.2 s hm)⟩
theorem Sps.below {N : Nat} {w w' : World} {l : List Sp} (h : Sps N w l) (hb : Below w.heap.size w w') : Sps N w' l := h.spl (Spl.of_below hb h.1)
theorem Sps.nil {N : Nat} {w : World} (h : N ≤ w.heap.size) : Sps N w [] := ⟨h, fun _ hm => by cases hm⟩
theorem Sps.cons {N : Nat} {w : World} {s : Sp} {l : List Sp} (hs : s.is N w) (h : Sps N w l) : Sps N w (s :: l) := ⟨h.1, fun z hm => by
 rcases List.mem_cons.1 hm with rfl | hm
 ·exact hs
 ·exact h.2 z hm⟩
theorem Sps.boxed {N : Nat} {w : World} {l : List Sp} (h : Sps N w l) (vs : List Value) (t : TypeId) : Sps N (w.alloc (.cells vs.toArray t)) (.box w.heap.size vs :: l) :=
 Sps.cons (fun j v hv => ⟨v, (blk_cell (heap_alloc_new w (.cells vs.toArray t))).trans (by simpa using hv), .refl v⟩) (h.below ((Below.refl _ _).alloc (Nat.le_refl _) _))
theorem Akin.bool {b : Bool} {u : Value} (h : Akin (.bool b) u) : ∃ t, u = .bool t := by
 rcases h with rfl | ⟨_, _, e, _⟩ | ⟨_, _, e, _⟩ | ⟨_, t, _, rfl⟩
 ·exact ⟨_, rfl⟩
 ·cases e
 ·cases e
 ·exact ⟨_, rfl⟩
theorem Sps.rep {N : Nat} {w : World} {l : List Sp} {b : Nat} {v0 v1 v4 v5 : Option Addr × Nat × Nat} {g ph : Int} {f : Bool} (h : Sps N w l)
  (hm : Sp.box b [.slice v0.1 v0.2.1 v0.2.2, .slice v1.1 v1.2.1 v1.2.2, .int .i64 g, .int .i64 ph, .slice v4.1 v4.2.1 v4.2.2, .slice v5.1 v5.2.1 v5.2.2, .bool f] ∈ l) :
  ∃ g' ph' f', w.cell? ⟨b, 0, none⟩ = some (.slice v0.1 v0.2.1 v0.2.2) ∧ w.cell? ⟨b, 1, none⟩ = some (.slice v1.1 v1.2.1 v1.2.2) ∧ w.cell? ⟨b, 2, none⟩ = some (.int .i64 g') ∧ w.cell? ⟨b, 3, none⟩ = some (.int .i64 ph') ∧
   w.cell? ⟨b, 4, none⟩ = some (.slice v4.1 v4.2.1 v4.2.2) ∧ w.cell? ⟨b, 5, none⟩ = some (.slice v5.1 v5.2.1 v5.2.2) ∧ w.cell? ⟨b, 6, none⟩ = some (.bool f') := by
 have hb := h.2 _ hm
 obtain ⟨u0, c0, k0⟩ := hb 0 _ rfl
 obtain ⟨u1, c1, k1⟩ := hb 1 _ rfl
 obtain ⟨u2, c2, k2⟩ := hb 2 _ rfl
 obtain ⟨u3, c3, k3⟩ := hb 3 _ rfl
 obtain ⟨u4, c4, k4⟩ := hb 4 _ rfl
 obtain ⟨u5, c5, k5⟩ := hb 5 _ rfl
 obtain ⟨u6, c6, k6⟩ := hb 6 _ rfl
 rw [k0.slice] at c0; rw [k1.slice] at c1; rw [k4.slice] at c4; rw [k5.slice] at c5
 obtain ⟨g', rfl⟩ := k2.int
 obtain ⟨p', rfl⟩ := k3.int
 obtain ⟨f', rfl⟩ := k6.bool
 exact ⟨_, _, _, c0, c1, c2, c3, c4, c5, c6⟩
theorem Sps.obj {N : Nat} {w : World} {l : List Sp} {b : Nat} {v2 : Option Addr × Nat × Nat} {i k : Int} {t : ByteArray} (h : Sps N w l)
  (hm : Sp.box b [.int .i64 i, .int .i64 k, .slice v2.1 v2.2.1 v2.2.2, .string t] ∈ l) :
  ∃ i' k' t', w.cell? ⟨b, 0, none⟩ = some (.int .i64 i') ∧ w.cell? ⟨b, 1, none⟩ = some (.int .i64 k') ∧ w.cell? ⟨b, 2, none⟩ = some (.slice v2.1 v2.2.1 v2.2.2) ∧ w.cell? ⟨b, 3, none⟩ = some (.string t') := by
 have hb := h.2 _ hm
 obtain ⟨u0, c0, k0⟩ := hb 0 _ rfl
 obtain ⟨u1, c1, k1⟩ := hb 1 _ rfl
 obtain ⟨u2, c2, k2⟩ := hb 2 _ rfl
 obtain ⟨u3, c3, k3⟩ := hb 3 _ rfl
 rw [k2.slice] at c2
 obtain ⟨i', rfl⟩ := k0.int
 obtain ⟨k', rfl⟩ := k1.int
 obtain ⟨t', rfl⟩ := k3.str
 exact ⟨_, _, _, c0, c1, c2, c3⟩
theorem rots_two {N : Nat} {w : World} {i0 k0 i1 k1 : Int} {a0 a1 : Option Addr} {n0 c0 n1 c1 : Nat} {t0 t1 : ByteArray} {t : TypeId} (hN : N ≤ w.heap.size) (h0 : Nums N w a0 n0) (h1 : Nums N w a1 n1) (hn0 : n0 ≤ 1000000000000000000) (hn1 : n1 ≤ 1000000000000000000) :
  Rots N (w.alloc (.cells #[.int .i64 i0, .int .i64 k0, .slice a0 n0 c0, .string t0, .int .i64 i1, .int .i64 k1, .slice a1 n1 c1, .string t1] t)) (some ⟨w.heap.size, 0, none⟩) 2 := by
 have hx := heap_alloc_new w (.cells #[.int .i64 i0, .int .i64 k0, .slice a0 n0 c0, .string t0, .int .i64 i1, .int .i64 k1, .slice a1 n1 c1, .string t1] t)
 have hs : Spl N w (w.alloc (.cells #[.int .i64 i0, .int .i64 k0, .slice a0 n0 c0, .string t0, .int .i64 i1, .int .i64 k1, .slice a1 n1 c1, .string t1] t)) := Spl.of_below ((Below.refl _ _).alloc (Nat.le_refl _) _) hN
 refine ⟨fun _ => ⟨_, _, rfl, hN, fun i hi => ⟨by simp only [World.frozen?, hx]; simp, ?_⟩⟩, fun _ => ⟨_, _, rfl, fun i hi => ?_⟩⟩
 ·rcases (show i = 0 ∨ i = 1 by omega) with rfl | rfl
  ·exact ⟨_, (blk_cell hx).trans rfl⟩
  ·exact ⟨_, (blk_cell hx).trans rfl⟩
 ·rcases (show i = 0 ∨ i = 1 by omega) with rfl | rfl
  ·exact ⟨_, _, _, (blk_cell hx).trans rfl, hn0, h0.spl hs⟩
  ·exact ⟨_, _, _, (blk_cell hx).trans rfl, hn1, h1.spl hs⟩
theorem Rots.none {N : Nat} {w : World} : Rots N w none 0 := ⟨fun h => absurd h (Nat.lt_irrefl 0), fun h => absurd h (Nat.lt_irrefl 0)⟩
structure R3 (w1 : World) (r : Rep) (p : Psh) (on : List Obj) (iv pv nv : Value) (f : Nat → Bool) (S : Nat → Prop) (x : World) (v63 v64 v65 v66 v67 v68 v7 v8 v9 : Value) : Prop where
 B : Below w1.heap.size w1 x
 hS : ∀ b, S b → w1.heap.size ≤ b ∧ b < x.heap.size
 h0 : f 0 = true → v63 = iv
 h1 : f 1 = true → ∃ s q o u, v64 = repV r s q o u ∧ RepIs S x r s q o u
 h2 : f 2 = true → v65 = pv
 h3 : f 3 = true → ∃ q u, v66 = .agg #[q, u, .bool p.force] ∧ StoreV S x q p.objects ∧ MvsV S x u p.updates
 h4 : f 4 = true → v67 = nv
 h5 : f 5 = true → StoreV S x v68 on
 h6 : f 6 = true → ∃ D u0 u1 u2 u3 u4 u5 u6, v7 = .pointer (some ⟨D, 0, none⟩) ∧ ¬ S D ∧ w1.heap.size ≤ D ∧ x.heap[D]? = some (.cells #[u0, u1, u2, u3, u4, u5, u6] 28 (0, 0)) ∧ (f 8 = true → v64 = .agg #[u0, u1, u2, u3, u4, u5, u6])
 h7 : f 7 = true → ∃ D u0 u1 u2, v8 = .pointer (some ⟨D, 0, none⟩) ∧ ¬ S D ∧ w1.heap.size ≤ D ∧ x.heap[D]? = some (.cells #[u0, u1, u2] 26 (0, 0)) ∧ (f 9 = true → v66 = .agg #[u0, u1, u2])
 h9 : f 10 = true → v9 = v68
 k8 : f 8 = true → f 6 = true
 k9 : f 9 = true → f 7 = true
 k1 : f 8 = true → f 1 = true
 k3 : f 9 = true → f 3 = true
 k5 : f 10 = true → f 5 = true
theorem R3.below {S' : Nat → Prop} {x' : World} {w1 : World} {r : Rep} {p : Psh} {on : List Obj} {iv pv nv : Value} {f : Nat → Bool} {S : Nat → Prop} {x : World} {v63 v64 v65 v66 v67 v68 v7 v8 v9 : Value} (h : R3 w1 r p on iv pv nv f S x v63 v64 v65 v66 v67 v68 v7 v8 v9) (hb : Below x.heap.size x x') (h1 : ∀ b, S b → S' b) (h2 : ∀ b, S' b → S b ∨ x.heap.size ≤ b ∧ b < x'.heap.size) :
  R3 w1 r p on iv pv nv f S' x' v63 v64 v65 v66 v67 v68 v7 v8 v9 where
 B := h.B.trans (hb.mono h.B.size)
 hS := fun b hb2 => by
  have e1 := h.B.size
  have e2 := hb.size
  rcases h2 b hb2 with hb2 | hb2
  ·have := h.hS b hb2; omega
  ·omega
 h0 := h.h0
 h1 := fun k => let ⟨s, q, o, u, e, g1⟩ := h.h1 k; ⟨s, q, o, u, e, (g1.below hb).weaken h1⟩
 h2 := h.h2
 h3 := fun k => let ⟨q, u, e, g1, g2⟩ := h.h3 k; ⟨q, u, e, (g1.below hb).weaken h1, (g2.below hb).weaken h1⟩
 h4 := h.h4
 h5 := fun k => ((h.h5 k).below hb).weaken h1
 h6 := fun k => let ⟨D, u0, u1, u2, u3, u4, u5, u6, e, hn, hl, hc, h8⟩ := h.h6 k; ⟨D, u0, u1, u2, u3, u4, u5, u6, e, (fun hm => (h2 D hm).elim hn fun hm => by have := lt_of_block hc; omega), hl, blk_below hc hb, h8⟩
 h7 := fun k => let ⟨D, u0, u1, u2, e, hn, hl, hc, h8⟩ := h.h7 k; ⟨D, u0, u1, u2, e, (fun hm => (h2 D hm).elim hn fun hm => by have := lt_of_block hc; omega), hl, blk_below hc hb, h8⟩
 h9 := h.h9
 k8 := h.k8
 k9 := h.k9
 k1 := h.k1
 k3 := h.k3
 k5 := h.k5
def nx (S : Nat → Prop) (x x' : World) (b : Nat) : Prop := S b ∨ x.heap.size ≤ b ∧ b < x'.heap.size
theorem R3.next {x' : World} {w1 : World} {r : Rep} {p : Psh} {on : List Obj} {iv pv nv : Value} {f : Nat → Bool} {S : Nat → Prop} {x : World} {v63 v64 v65 v66 v67 v68 v7 v8 v9 : Value} (h : R3 w1 r p on iv pv nv f S x v63 v64 v65 v66 v67 v68 v7 v8 v9) (hb : Below x.heap.size x x') : R3 w1 r p on iv pv nv f (nx S x x') x' v63 v64 v65 v66 v67 v68 v7 v8 v9 := h.below hb (fun b hb => .inl hb) fun b hb => hb
theorem R3.s0 {w1 : World} {r : Rep} {p : Psh} {on : List Obj} {iv pv nv : Value} {f : Nat → Bool} {S : Nat → Prop} {x : World} {v63 v64 v65 v66 v67 v68 v7 v8 v9 : Value} (h : R3 w1 r p on iv pv nv f S x v63 v64 v65 v66 v67 v68 v7 v8 v9) : R3 w1 r p on iv pv nv (fun j => if j = 0 then true else f j) S x iv v64 v65 v66 v67 v68 v7 v8 v9 := ⟨h.B, h.hS, fun _ => rfl, h.h1, h.h2, h.h3, h.h4, h.h5, h.h6, h.h7, h.h9, h.k8, h.k9, h.k1, h.k3, h.k5⟩
theorem R3.s2 {w1 : World} {r : Rep} {p : Psh} {on : List Obj} {iv pv nv : Value} {f : Nat → Bool} {S : Nat → Prop} {x : World} {v63 v64 v65 v66 v67 v68 v7 v8 v9 : Value} (h : R3 w1 r p on iv pv nv f S x v63 v64 v65 v66 v67 v68 v7 v8 v9) : R3 w1 r p on iv pv nv (fun j => if j = 2 then true else f j) S x v63 v64 pv v66 v67 v68 v7 v8 v9 := ⟨h.B, h.hS, h.h0, h.h1, fun _ => rfl, h.h3, h.h4, h.h5, h.h6, h.h7, h.h9, h.k8, h.k9, h.k1, h.k3, h.k5⟩
theorem R3.s4 {w1 : World} {r : Rep} {p : Psh} {on : List Obj} {iv pv nv : Value} {f : Nat → Bool} {S : Nat → Prop} {x : World} {v63 v64 v65 v66 v67 v68 v7 v8 v9 : Value} (h : R3 w1 r p on iv pv nv f S x v63 v64 v65 v66 v67 v68 v7 v8 v9) : R3 w1 r p on iv pv nv (fun j => if j = 4 then true else f j) S x v63 v64 v65 v66 nv v68 v7 v8 v9 := ⟨h.B, h.hS, h.h0, h.h1, h.h2, h.h3, fun _ => rfl, h.h5, h.h6, h.h7, h.h9, h.k8, h.k9, h.k1, h.k3, h.k5⟩
theorem R3.s10 {w1 : World} {r : Rep} {p : Psh} {on : List Obj} {iv pv nv : Value} {f : Nat → Bool} {S : Nat → Prop} {x : World} {v63 v64 v65 v66 v67 v68 v7 v8 v9 : Value} (h : R3 w1 r p on iv pv nv f S x v63 v64 v65 v66 v67 v68 v7 v8 v9) (hf5 : f 5 = true) : R3 w1 r p on iv pv nv (fun j => if j = 10 then true else f j) S x v63 v64 v65 v66 v67 v68 v7 v8 v68 := ⟨h.B, h.hS, h.h0, h.h1, h.h2, h.h3, h.h4, h.h5, h.h6, h.h7, fun _ => rfl, h.k8, h.k9, h.k1, h.k3, fun _ => hf5⟩
theorem R3.s1 {s q o u : Value} {x' : World} {w1 : World} {r : Rep} {p : Psh} {on : List Obj} {iv pv nv : Value} {f : Nat → Bool} {S : Nat → Prop} {x : World} {v63 v64 v65 v66 v67 v68 v7 v8 v9 : Value} (h : R3 w1 r p on iv pv nv f S x v63 v64 v65 v66 v67 v68 v7 v8 v9) (hf1 : f 1 = false) (hb : Below x.heap.size x x') (hv : RepIs (fun b => x.heap.size ≤ b) x' r s q o u) : R3 w1 r p on iv pv nv (fun j => if j = 1 then true else f j) (nx S x x') x' v63 (repV r s q o u) v65 v66 v67 v68 v7 v8 v9 :=
 have g := h.next hb
 ⟨g.B, g.hS, g.h0, fun _ => ⟨s, q, o, u, rfl, hv.lt.weaken fun b hb => .inr hb⟩, g.h2, g.h3, g.h4, g.h5, fun k => let ⟨D, u0, u1, u2, u3, u4, u5, u6, e, hn, hl, hc, e8⟩ := g.h6 k; ⟨D, u0, u1, u2, u3, u4, u5, u6, e, hn, hl, hc, fun k8 => by have k9 : f 8 = true := k8; rw [h.k1 k9] at hf1; cases hf1⟩, g.h7, g.h9, g.k8, g.k9, fun _ => rfl, g.k3, g.k5⟩
theorem R3.s3 {q u : Value} {x' : World} {w1 : World} {r : Rep} {p : Psh} {on : List Obj} {iv pv nv : Value} {f : Nat → Bool} {S : Nat → Prop} {x : World} {v63 v64 v65 v66 v67 v68 v7 v8 v9 : Value} (h : R3 w1 r p on iv pv nv f S x v63 v64 v65 v66 v67 v68 v7 v8 v9) (hf3 : f 3 = false) (hb : Below x.heap.size x x') (hq : StoreV (fun b => x.heap.size ≤ b) x' q p.objects) (hu : MvsV (fun b => x.heap.size ≤ b) x' u p.updates) : R3 w1 r p on iv pv nv (fun j => if j = 3 then true else f j) (nx S x x') x' v63 v64 v65 (.agg #[q, u, .bool p.force]) v67 v68 v7 v8 v9 :=
 have g := h.next hb
 ⟨g.B, g.hS, g.h0, g.h1, g.h2, fun _ => ⟨q, u, rfl, hq.lt.weaken fun b hb => .inr hb, hu.lt.weaken fun b hb => .inr hb⟩, g.h4, g.h5, g.h6, fun k => let ⟨D, u0, u1, u2, e, hn, hl, hc, e8⟩ := g.h7 k; ⟨D, u0, u1, u2, e, hn, hl, hc, fun k8 => by have k9 : f 9 = true := k8; rw [h.k3 k9] at hf3; cases hf3⟩, g.h9, g.k8, g.k9, g.k1, fun _ => rfl, g.k5⟩
theorem R3.s5 {v : Value} {x' : World} {w1 : World} {r : Rep} {p : Psh} {on : List Obj} {iv pv nv : Value} {f : Nat → Bool} {S : Nat → Prop} {x : World} {v63 v64 v65 v66 v67 v68 v7 v8 v9 : Value} (h : R3 w1 r p on iv pv nv f S x v63 v64 v65 v66 v67 v68 v7 v8 v9) (hf5 : f 5 = false) (hb : Below x.heap.size x x') (hv : StoreV (fun b => x.heap.size ≤ b) x' v on) : R3 w1 r p on iv pv nv (fun j => if j = 5 then true else f j) (nx S x x') x' v63 v64 v65 v66 v67 v v7 v8 v9 :=
 have g := h.next hb
 ⟨g.B, g.hS, g.h0, g.h1, g.h2, g.h3, g.h4, fun _ => hv.lt.weaken fun b hb => .inr hb, g.h6, g.h7, (fun k => by have k9 : f 10 = true := k; rw [h.k5 k9] at hf5; cases hf5), g.k8, g.k9, g.k1, g.k3, fun _ => rfl⟩
theorem R3.s6 {u0 u1 u2 u3 u4 u5 u6 : Value} {w1 : World} {r : Rep} {p : Psh} {on : List Obj} {iv pv nv : Value} {f : Nat → Bool} {S : Nat → Prop} {x : World} {v63 v64 v65 v66 v67 v68 v7 v8 v9 : Value} (h : R3 w1 r p on iv pv nv f S x v63 v64 v65 v66 v67 v68 v7 v8 v9) (hf : f 6 = false) : R3 w1 r p on iv pv nv (fun j => if j = 6 then true else f j) S (x.alloc (.cells #[u0, u1, u2, u3, u4, u5, u6] 28)) v63 v64 v65 v66 v67 v68 (.pointer (some ⟨x.heap.size, 0, none⟩)) v8 v9 :=
 have g := h.below (S' := S) ((Below.refl _ _).alloc (Nat.le_refl _) (.cells #[u0, u1, u2, u3, u4, u5, u6] 28)) (fun b hb => hb) (fun b hb => .inl hb)
 ⟨g.B, g.hS, g.h0, g.h1, g.h2, g.h3, g.h4, g.h5, fun _ => ⟨x.heap.size, u0, u1, u2, u3, u4, u5, u6, rfl, (fun hm => by have := h.hS _ hm; omega), h.B.size, heap_alloc_new x _, fun k => by have k9 : f 8 = true := k; rw [h.k8 k9] at hf; cases hf⟩, g.h7, g.h9, fun _ => rfl, g.k9, g.k1, g.k3, g.k5⟩
theorem R3.s7 {u0 u1 u2 : Value} {w1 : World} {r : Rep} {p : Psh} {on : List Obj} {iv pv nv : Value} {f : Nat → Bool} {S : Nat → Prop} {x : World} {v63 v64 v65 v66 v67 v68 v7 v8 v9 : Value} (h : R3 w1 r p on iv pv nv f S x v63 v64 v65 v66 v67 v68 v7 v8 v9) (hf : f 7 = false) : R3 w1 r p on iv pv nv (fun j => if j = 7 then true else f j) S (x.alloc (.cells #[u0, u1, u2] 26)) v63 v64 v65 v66 v67 v68 v7 (.pointer (some ⟨x.heap.size, 0, none⟩)) v9 :=
 have g := h.below (S' := S) ((Below.refl _ _).alloc (Nat.le_refl _) (.cells #[u0, u1, u2] 26)) (fun b hb => hb) (fun b hb => .inl hb)
 ⟨g.B, g.hS, g.h0, g.h1, g.h2, g.h3, g.h4, g.h5, g.h6, fun _ => ⟨x.heap.size, u0, u1, u2, rfl, (fun hm => by have := h.hS _ hm; omega), h.B.size, heap_alloc_new x _, fun k => by have k9 : f 9 = true := k; rw [h.k9 k9] at hf; cases hf⟩, g.h9, g.k8, fun _ => rfl, g.k1, g.k3, g.k5⟩
theorem R3.upd {D : Nat} {x' : World} {f' : Nat → Bool} {w1 : World} {r : Rep} {p : Psh} {on : List Obj} {iv pv nv : Value} {f : Nat → Bool} {S : Nat → Prop} {x : World} {v63 v64 v65 v66 v67 v68 v7 v8 v9 : Value} (h : R3 w1 r p on iv pv nv f S x v63 v64 v65 v66 v67 v68 v7 v8 v9) (hu : Upd (fun b => b = D) x x') (hD : w1.heap.size ≤ D) (hn : ¬ S D) :
  Below w1.heap.size w1 x' ∧ (∀ b, S b → w1.heap.size ≤ b ∧ b < x'.heap.size) ∧ (f 1 = true → ∃ s q o u, v64 = repV r s q o u ∧ RepIs S x' r s q o u) ∧ (f 3 = true → ∃ q u, v66 = .agg #[q, u, .bool p.force] ∧ StoreV S x' q p.objects ∧ MvsV S x' u p.updates) ∧ (f 5 = true → StoreV S x' v68 on) := by
 have hT : ∀ b, S b → ¬ (fun b => b = D) b := fun b hb e => hn (by have e2 : b = D := e; rw [← e2]; exact hb)
 refine ⟨h.B.trans (hu.below (B := w1.heap.size) h.B.size (fun b hb => by have e2 : b = D := hb; omega)), fun b hb => ?_, fun k => ?_, fun k => ?_, fun k => (h.h5 k).upd' hu hT⟩
 ·have := h.hS b hb; have := hu.size; omega
 ·obtain ⟨s, q, o, u, e, g⟩ := h.h1 k
  exact ⟨s, q, o, u, e, g.upd hu hT⟩
 ·obtain ⟨q, u, e, g1, g2⟩ := h.h3 k
  exact ⟨q, u, e, g1.upd' hu hT, g2.upd hu hT⟩
theorem R3.s8 {D : Nat} {c0 c1 c2 c3 c4 c5 c6 u0 u1 u2 u3 u4 u5 u6 : Value} {w1 : World} {r : Rep} {p : Psh} {on : List Obj} {iv pv nv : Value} {f : Nat → Bool} {S : Nat → Prop} {x : World} {v63 v64 v65 v66 v67 v68 v7 v8 v9 : Value} (h : R3 w1 r p on iv pv nv f S x v63 v64 v65 v66 v67 v68 v7 v8 v9) (hf : f 6 = true) (hf1 : f 1 = true) (e7 : v7 = .pointer (some ⟨D, 0, none⟩)) (e64 : v64 = .agg #[c0, c1, c2, c3, c4, c5, c6]) (hD : w1.heap.size ≤ D) (hn : ¬ S D)
  (hc : x.heap[D]? = some (.cells #[u0, u1, u2, u3, u4, u5, u6] 28 (0, 0))) : R3 w1 r p on iv pv nv (fun j => if j = 8 then true else f j) S (set7 D c0 c1 c2 c3 c4 c5 c6 x) v63 v64 v65 v66 v67 v68 v7 v8 v9 :=
 have hu := set7_upd D c0 c1 c2 c3 c4 c5 c6 x
 have ⟨g1, g2, g3, g4, g5⟩ := h.upd (f' := f) hu hD hn
 ⟨g1, g2, h.h0, g3, h.h2, g4, h.h4, g5, fun _ => ⟨D, c0, c1, c2, c3, c4, c5, c6, e7, hn, hD, set7_is hc, fun _ => e64⟩, fun k => let ⟨E, w0, w1, w2, e, gn, gl, gc, g8⟩ := h.h7 k
  ⟨E, w0, w1, w2, e, gn, gl, hu.blk gc (fun e2 => by have e3 : E = D := e2; rw [e3, hc] at gc; cases gc), g8⟩, h.h9, fun _ => hf, h.k9, fun _ => hf1, h.k3, h.k5⟩
theorem R3.s9 {D : Nat} {c0 c1 c2 u0 u1 u2 : Value} {w1 : World} {r : Rep} {p : Psh} {on : List Obj} {iv pv nv : Value} {f : Nat → Bool} {S : Nat → Prop} {x : World} {v63 v64 v65 v66 v67 v68 v7 v8 v9 : Value} (h : R3 w1 r p on iv pv nv f S x v63 v64 v65 v66 v67 v68 v7 v8 v9) (hf : f 7 = true) (hf3 : f 3 = true) (e8 : v8 = .pointer (some ⟨D, 0, none⟩)) (e66 : v66 = .agg #[c0, c1, c2]) (hD : w1.heap.size ≤ D) (hn : ¬ S D)
  (hc : x.heap[D]? = some (.cells #[u0, u1, u2] 26 (0, 0))) : R3 w1 r p on iv pv nv (fun j => if j = 9 then true else f j) S (set3 D c0 c1 c2 x) v63 v64 v65 v66 v67 v68 v7 v8 v9 :=
 have hu := set3_upd D c0 c1 c2 x
 have ⟨g1, g2, g3, g4, g5⟩ := h.upd (f' := f) hu hD hn
 ⟨g1, g2, h.h0, g3, h.h2, g4, h.h4, g5, fun k => let ⟨E, w0, w1, w2, w3, w4, w5, w6, e, gn, gl, gc, g8⟩ := h.h6 k
  ⟨E, w0, w1, w2, w3, w4, w5, w6, e, gn, gl, hu.blk gc (fun e2 => by have e3 : E = D := e2; rw [e3, hc] at gc; cases gc), g8⟩, fun _ => ⟨D, c0, c1, c2, e8, hn, hD, set3_is hc, fun _ => e66⟩, h.h9, h.k8, fun _ => hf, h.k1, fun _ => hf3, h.k5⟩
def RestAt (w1 : World) (r : Rep) (p : Psh) (on : List Obj) (D7 D8 : Nat) (a9 : Option Addr) (c9 : Nat) (y : World) : Prop :=
 Below w1.heap.size w1 y ∧ (∃ s q o u, y.heap[D7]? = some (.cells #[s, q, .int .i64 r.gen, .int .i64 r.phase, o, u, .bool r.pend.force] 28 (0, 0)) ∧ RepIs (fun _ => True) y r s q o u) ∧
  (∃ q u, y.heap[D8]? = some (.cells #[q, u, .bool p.force] 26 (0, 0)) ∧ StoreV (fun _ => True) y q p.objects ∧ MvsV (fun _ => True) y u p.updates) ∧ StoreV (fun _ => True) y (.slice a9 on.length c9) on
theorem R3.fin {w1 : World} {r : Rep} {p : Psh} {on : List Obj} {iv pv nv : Value} {f : Nat → Bool} {S : Nat → Prop} {x : World} {v63 v64 v65 v66 v67 v68 v7 v8 v9 : Value} (h : R3 w1 r p on iv pv nv f S x v63 v64 v65 v66 v67 v68 v7 v8 v9) (hf : ∀ i, i < 11 → f i = true) : ∃ D7 D8 a9 c9, v7 = .pointer (some ⟨D7, 0, none⟩) ∧ v8 = .pointer (some ⟨D8, 0, none⟩) ∧ v9 = .slice a9 on.length c9 ∧ RestAt w1 r p on D7 D8 a9 c9 x := by
 obtain ⟨s, q, o, u, e1, g1⟩ := h.h1 (hf 1 (by omega))
 obtain ⟨q3, u3, e3, g3, g4⟩ := h.h3 (hf 3 (by omega))
 have g5 := h.h5 (hf 5 (by omega))
 obtain ⟨D7, u0, u1, u2, u4, u5, u6, u7, e7, _, _, c7, k7⟩ := h.h6 (hf 6 (by omega))
 obtain ⟨D8, z0, z1, z2, e8, _, _, c8, k8⟩ := h.h7 (hf 7 (by omega))
 have k7 := k7 (hf 8 (by omega))
 have k8 := k8 (hf 9 (by omega))
 have k9 := h.h9 (hf 10 (by omega))
 rw [e1, repV] at k7
 rw [e3] at k8
 cases k7; cases k8
 obtain ⟨a9, c9, e9⟩ := g5.vshape
 rw [e9] at g5 k9
 exact ⟨D7, D8, a9, c9, e7, e8, k9, h.B, ⟨_, _, _, _, c7, g1.weaken fun _ _ => trivial⟩, ⟨_, _, c8, g3.weaken fun _ _ => trivial, g4.weaken fun _ _ => trivial⟩, g5.weaken fun _ _ => trivial⟩
theorem RestAt.below {w1 : World} {r : Rep} {p : Psh} {on : List Obj} {D7 D8 : Nat} {a9 : Option Addr} {c9 : Nat} {y y' : World} (h : RestAt w1 r p on D7 D8 a9 c9 y) (hb : Below y.heap.size y y') : RestAt w1 r p on D7 D8 a9 c9 y' := by
 obtain ⟨h0, ⟨s, q, o, u, g1, g2⟩, ⟨q8, u8, g3, g4, g5⟩, g6⟩ := h
 exact ⟨h0.trans (hb.mono h0.size), ⟨s, q, o, u, blk_below g1 hb, g2.below hb⟩, ⟨q8, u8, blk_below g3 hb, g4.below hb, g5.below hb⟩, g6.below hb⟩
theorem StoreV.len {S : Nat → Prop} {w : World} {v : Value} {l : List Obj} (h : StoreV S w v l) : l.length ≤ 1000000000000000000 := by have := h.bytes; omega
theorem RefsV.len {S : Nat → Prop} {w : World} {v : Value} {l : List Rf} (h : RefsV S w v l) : l.length ≤ 1000000000000000000 := by have := h.bytes; omega
theorem MvsV.len {S : Nat → Prop} {w : World} {v : Value} {l : List Mv} (h : MvsV S w v l) : l.length ≤ 1000000000000000000 := by have := h.bytes; omega
theorem IntsV.len {S : Nat → Prop} {w : World} {v : Value} {xs : List Int} (h : IntsV S w v xs) : xs.length ≤ 1000000000000000000 := by obtain ⟨⟨_, _, _, _, _, h3, _⟩, _⟩ := h; omega
theorem encE_size (o : Obj) : (encE o).size ≤ 9223372036854775807 := by
 unfold encE
 split
 ·rename_i h
  have := checkObj_ok h
  rw [encB_size]; omega
 ·exact Nat.zero_le _
end Go.Proofs.YtjdgpgfiomnjkaaGreatDoor
