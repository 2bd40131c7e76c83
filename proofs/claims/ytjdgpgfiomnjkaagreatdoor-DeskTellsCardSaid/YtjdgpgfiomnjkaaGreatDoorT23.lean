/- CluE: a row of replicas of the call's own. -/
import Derived.Test.YtjdgpgfiomnjkaaGreatDoorT22
set_option linter.all false
set_option maxHeartbeats 8000000
set_option maxRecDepth 100000
namespace Go.Proofs.YtjdgpgfiomnjkaaGreatDoor
open Go.RowKit
theorem Tryz.infoRep : (Tryz.prog.info? 28).map (fun i => (i.zero, i.size, i.bytes)) = some (some (.agg #[.slice none 0 0, .slice none 0 0, .int .i64 0, .int .i64 0, .slice none 0 0, .slice none 0 0, .bool false]), 7, 120) := by kernel_rfl
def BD (S : Nat → Prop) (B : Nat) (w : World) (v : Value) (l : List An) : Prop :=
 ∃ vs : Nat → RV, (∀ b, S b → b < w.heap.size ∧ v.ownBlock ≠ some b) ∧ w.ownsRow B 28 7 v l.length (AN (fun i => BA (Af l i) (vs i)) l.length) ∧
  ∀ i, i < l.length → JZ S w (Af l i) (vs i)
theorem BD.nil (S : Nat → Prop) (B : Nat) (w : World) (hS : ∀ b, S b → b < w.heap.size) : BD S B w (.slice none 0 0) [] :=
 ⟨fun _ => ⟨.nilFunc, .nilFunc, .nilFunc, .nilFunc⟩, fun b hb => ⟨hS b hb, by simp [Value.ownBlock]⟩, World.ownsRow_nil _ _ _ _, fun i hi => by simp at hi⟩
theorem BD.below {S : Nat → Prop} {B : Nat} {w w' : World} {v : Value} {l : List An} (h : BD S B w v l) (hb : Below w.heap.size w w') : BD S B w' v l := by
 obtain ⟨vs, h1, h2, h3⟩ := h
 exact ⟨vs, fun b hS => ⟨Nat.lt_of_lt_of_le (h1 b hS).1 hb.size, (h1 b hS).2⟩, DJ h2 hb, fun i hi => (h3 i hi).below hb⟩
theorem BD.upd {S T : Nat → Prop} {B : Nat} {w w' : World} {v : Value} {l : List An} (h : BD S B w v l) (hu : Av T w w') (hS : ∀ b, S b → ¬ T b) (hv : ∀ g, v.ownBlock = some g → ¬ T g) : BD S B w' v l := by
 obtain ⟨vs, h1, h2, h3⟩ := h
 exact ⟨vs, fun b hb => ⟨Nat.lt_of_lt_of_le (h1 b hb).1 hu.size, (h1 b hb).2⟩, Fp h2 hu hv, fun i hi => (h3 i hi).upd hu hS⟩
theorem BD.shape {S : Nat → Prop} {B : Nat} {w : World} {v : Value} {l : List An} (h : BD S B w v l) : ∃ a c, v = .slice a l.length c := let ⟨_, _, h2, _⟩ := h; KQ h2
theorem BD.block {S : Nat → Prop} {B : Nat} {w : World} {v : Value} {l : List An} (h : BD S B w v l) {g : Nat} (hg : v.ownBlock = some g) : B ≤ g ∧ g < w.heap.size := let ⟨_, _, h2, _⟩ := h; h2.lt g hg
theorem BD.lt {S : Nat → Prop} {B : Nat} {w : World} {v : Value} {l : List An} (h : BD S B w v l) {b : Nat} (hb : S b) : b < w.heap.size := let ⟨_, h1, _, _⟩ := h; (h1 b hb).1
theorem BD.reps {S S' : Nat → Prop} {B : Nat} {w : World} {v : Value} {l : List An} (h : BD S B w v l) (hl : l.length * 120 ≤ 140737488351232) (hS : ∀ b, S b → S' b) (hB : ∀ b, v.ownBlock = some b → S' b) : AJ S' w v l := by
 obtain ⟨vs, h1, h2, h3⟩ := h
 refine ⟨vs, GN h2 hB hl (fun i hi j u hu => ?_), fun i hi => (h3 i hi).weaken hS⟩
 exact CF (cs := fun i => BA (Af l i) (vs i)) (fun _ _ => rfl) i hi j u hu
theorem BD.any {S : Nat → Prop} {B : Nat} {w : World} {v : Value} {l : List An} (h : BD S B w v l) (hl : l.length * 120 ≤ 140737488351232) : AJ (fun _ => True) w v l := h.reps hl (fun _ _ => trivial) (fun _ _ => trivial)
theorem BD.weaken {S S' : Nat → Prop} {B B' : Nat} {w : World} {v : Value} {l : List An} (h : BD S B w v l) (hS : ∀ b, S b → S' b) (hS' : ∀ b, S' b → b < w.heap.size ∧ v.ownBlock ≠ some b) (hB : B' ≤ B) : BD S' B' w v l := by
 obtain ⟨vs, h1, h2, h3⟩ := h
 exact ⟨vs, hS', Ke h2 hB, fun i hi => (h3 i hi).weaken hS⟩
theorem BD.own {S : Nat → Prop} {B : Nat} {w : World} {v : Value} {l : List An} (h : BD S B w v l) {b : Nat} (hb : S b) : v.ownBlock ≠ some b := let ⟨_, h1, _, _⟩ := h; (h1 b hb).2
theorem BD.list {S : Nat → Prop} {B : Nat} {w : World} {v : Value} {l l' : List An} (e : l' = l) (h : BD S B w v l') : BD S B w v l := e ▸ h
theorem BD.free {S : Nat → Prop} {B : Nat} {w : World} {l : List An} {g o n c : Nat} (h : BD S B w (.slice (some ⟨g, o, none⟩) n c) l) (j : Nat) : w.frozen? ⟨g, j, none⟩ = false := by
 obtain ⟨vs, h1, ⟨_, h2⟩, h3⟩ := h
 rcases h2 with ⟨e, _⟩ | ⟨g', cap, cur, e, _, hh, _⟩
 ·cases e
 ·cases e; exact Ab hh
theorem My {l m : List An} {i : Nat} (h : i < l.length) : Af (l ++ m) i = Af l i := by
 unfold Af at_; simp only [List.getD_eq_getElem?_getD, List.getElem?_append_left h]
theorem Nl {l m : List An} {i : Nat} : Af (l ++ m) (l.length + i) = Af m i := by
 unfold Af at_; simp only [List.getD_eq_getElem?_getD]
 rw [List.getElem?_append_right (by omega), show l.length + i - l.length = i by omega]
theorem VX {S : Nat → Prop} {w : World} {r : An} {x : RV} (h : JZ S w r x) : ∀ u ∈ BA r x, u.oneCell' = true := by
 obtain ⟨y, rfl⟩ := h.ra
 intro u hu
 simp only [BA, RA.rv, List.mem_cons, List.not_mem_nil, or_false] at hu
 rcases hu with rfl | rfl | rfl | rfl | rfl | rfl | rfl <;> rfl
theorem UG {S : Nat → Prop} {w : World} {a : Option Addr} {n cap : Nat} {l : List An} {lvs : Nat → RV} (h : Sl S w (.slice a n cap) 7 120 l.length (fun i => BA (Af l i) (lvs i))) (hn : 0 < l.length) :
  ∃ ad, a = some ad ∧ ∀ j u, (AN (fun i => BA (Af l i) (lvs i)) l.length)[j]? = some u → w.cell? (ad.add j) = some u := by
 obtain ⟨a', cap', hv, h1, h2, h3, h4⟩ := h
 cases hv
 obtain ⟨b, off, rfl, hb, hc⟩ := h4 hn
 refine ⟨_, rfl, fun j u hu => ?_⟩
 have hj : j < l.length * 7 := by
  rcases Nat.lt_or_ge j (l.length * 7) with h | h
  ·exact h
  ·rw [List.getElem?_eq_none (by rw [AU (sz := 7) fun _ _ => rfl]; exact h)] at hu; cases hu
 have hi' : j / 7 < l.length := by omega
 have hm : j % 7 < (BA (Af l (j / 7)) (lvs (j / 7))).length := by show j % 7 < 7; omega
 have e := CF (cs := fun i => BA (Af l i) (lvs i)) (sz := 7) (n := l.length) (fun _ _ => rfl) (j / 7) hi' (j % 7) _ (List.getElem?_eq_getElem hm)
 rw [show j / 7 * 7 + j % 7 = j by omega, hu] at e
 have := hc (j / 7) hi' (j % 7) u (by rw [List.getElem?_eq_getElem hm]; exact e.symm)
 rw [show (⟨b, off, none⟩ : Addr).add j = ⟨b, off + j, none⟩ by unfold Addr.add; split <;> simp_all]
 rw [show off + j = off + j / 7 * 7 + j % 7 by omega]; exact this
theorem Fd {B : Nat} {w : World} {v mv : Value} {l more : List An} {S S1 : Nat → Prop} (ty : TypeId) (hG : BD S1 B w v l) (h : AJ S w mv more) (hS : ∀ b, S b → b < w.heap.size ∧ v.ownBlock ≠ some b)
  (hl : (l.length + more.length) * 120 ≤ 140737488351232) (hB : B ≤ w.heap.size) :
  ∃ v' x, (Builtin.append_ #[64, 64] ty #[v, mv]).run Tryz.prog w = .ok v' x ∧ BD (fun b => S1 b ∨ S b) B x v' (l ++ more) ∧ Av (fun b => v.ownBlock = some b) w x := by
 obtain ⟨i0, hi, hz0, hz1, hz2⟩ := info_parts Tryz.infoRep
 have hG' := hG
 obtain ⟨lvs1, h1, hown, h3⟩ := hG
 obtain ⟨lvs, hsl, h5⟩ := h
 have hsl' := hsl
 obtain ⟨a, cap, rfl, hc1, hc2, hc3, _⟩ := hsl'
 by_cases h0 : more.length = 0
 ·obtain rfl : more = [] := List.length_eq_zero_iff.1 h0
  obtain ⟨base, sc, hv, hle⟩ : ∃ base sc, v = .slice base l.length sc ∧ l.length ≤ sc := by
   rcases hown.2 with ⟨rfl, hn⟩ | ⟨g, c, cur, rfl, _, _, hn, _⟩
   ·exact ⟨none, 0, by rw [hn], by omega⟩
   ·exact ⟨_, _, rfl, hn⟩
  subst hv
  refine ⟨_, w, run_append_nothing _ 64 64 ty 28 i0 Tryz.underlying64 hi base l.length sc hle _
   ⟨.inl ⟨_, Tryz.underlying64⟩, fun w' => by simp [Builtin.lenOf], by cases a <;> simp [Builtin.firstCells] <;> rfl, by cases a <;> simp [Builtin.firstCells] <;> rfl, by simp, by simp⟩, ?_, Av.refl _ _⟩
  rw [List.append_nil]; exact hG'.weaken (fun _ h => .inl h) (fun b hb => by rcases hb with hb | hb; exact h1 b hb; exact hS b hb) (Nat.le_refl _)
 ·obtain ⟨ad, rfl, hnews⟩ := UG hsl (by omega)
  obtain ⟨g, c, x, hr, ho, hg, hor, hlt⟩ := run_append_lies (P := Tryz.prog) w 64 ty B 28 i0 _ 7 120 Tryz.underlying64 hi hz0 hz1 hz2 rfl (by omega) v l.length _ hown ad more.length cap
   (AN (fun i => BA (Af more i) (lvs i)) more.length) (AU fun _ _ => rfl) hnews (Iy fun i hi => VX (h5 i hi)) (by omega) (by unfold maxLen; omega) (by omega) hB _ rfl
  have hu : Av (fun b => v.ownBlock = some b) w x := Av.grown (Av.refl _ _) hg (fun k hk _ => hk)
  refine ⟨_, x, hr, ⟨fun i => if i < l.length then lvs1 i else lvs (i - l.length), fun b hb => ?_, ?_, fun i hi => ?_⟩, hu⟩
  ·have hb' : b < w.heap.size ∧ v.ownBlock ≠ some b := by rcases hb with hb | hb; exact h1 b hb; exact hS b hb
   refine ⟨Nat.lt_of_lt_of_le hb'.1 hu.size, fun e => ?_⟩
   have e' : g = b := by simpa [Value.ownBlock] using e
   rcases hor with h | h
   ·exact hb'.2 (by rw [h, e'])
   ·omega
  ·rw [List.length_append, Dc]
   have e1 : AN (fun i => BA (Af (l ++ more) i) (if i < l.length then lvs1 i else lvs (i - l.length))) l.length = AN (fun i => BA (Af l i) (lvs1 i)) l.length :=
    AZ fun i hi => by rw [My hi, if_pos hi]
   have e2 : AN (fun j => BA (Af (l ++ more) (l.length + j)) (if l.length + j < l.length then lvs1 (l.length + j) else lvs (l.length + j - l.length))) more.length = AN (fun i => BA (Af more i) (lvs i)) more.length :=
    AZ fun i hi => by rw [Nl, if_neg (by omega), show l.length + i - l.length = i by omega]
   rw [e1, e2]; exact ho
  ·rw [List.length_append] at hi
   by_cases hlt : i < l.length
   ·simp only [My hlt, if_pos hlt]
    exact ((h3 i hlt).upd hu (fun b hb e => (h1 b hb).2 e)).weaken fun _ h => .inl h
   ·obtain ⟨j, rfl⟩ : ∃ j, i = l.length + j := ⟨i - l.length, by omega⟩
    simp only [Nl, if_neg hlt, show l.length + j - l.length = j by omega]
    exact ((h5 j (by omega)).upd hu (fun b hb e => (hS b hb).2 e)).weaken fun _ h => .inr h
theorem DV {l : List An} {i j : Nat} {r : An} (hj : j < l.length) : Af (l.set i r) j = if j = i then r else Af l j := by
 unfold Af at_
 simp only [List.getD_eq_getElem?_getD, List.getElem?_set]
 by_cases e : i = j
 ·subst e; simp [hj]
 ·rw [if_neg e, if_neg (fun h => e h.symm)]
theorem BD.set {S S2 : Nat → Prop} {B : Nat} {w : World} {l : List An} {r : An} {x : RV} {g n c i : Nat} (h : BD S B w (.slice (some ⟨g, 0, none⟩) n c) l) (hi : i < l.length) (hr : JZ S2 w r x)
  (h2 : ∀ b, S2 b → b < w.heap.size ∧ b ≠ g) :
  BD (fun b => S b ∨ S2 b) B (w.setCells g (i * 7) (BA r x)) (.slice (some ⟨g, 0, none⟩) n c) (l.set i r) ∧ Av (fun b => b = g) w (w.setCells g (i * 7) (BA r x)) := by
 have hu := Et g (BA r x) (i * 7) w
 refine ⟨?_, hu⟩
 obtain ⟨vs, h1, ⟨hxl, hown⟩, h3⟩ := h
 rcases hown with ⟨e, _⟩ | ⟨g', cap, cur, e, hBg, hg, hnc, hcm, hcs, hxs⟩
 ·cases e
 cases e
 have hcl : cur.toList.length = c * 7 := by simp [hcs]
 have hw := EU g 28 (BA r x) (i * 7) cur w hg (by rw [hcs]; show i * 7 + 7 ≤ _; omega)
 refine ⟨fun j => if j = i then x else vs j, fun b hb => ?_, ⟨?_, .inr ⟨g, c, _, by rw [List.length_set], hBg, hw, by rw [List.length_set]; exact hnc, hcm, ?_, ?_⟩⟩, fun j hj => ?_⟩
 ·rcases hb with hb | hb
  ·exact ⟨Nat.lt_of_lt_of_le (h1 b hb).1 hu.size, (h1 b hb).2⟩
  ·exact ⟨Nat.lt_of_lt_of_le (h2 b hb).1 hu.size, fun e => (h2 b hb).2 (by simpa [Value.ownBlock, eq_comm] using e)⟩
 ·exact AU fun _ _ => rfl
 ·simp only [List.size_toArray, List.length_append, List.length_take, List.length_drop, hcl]; show min (i * 7) (c * 7) + 7 + (c * 7 - (i * 7 + 7)) = c * 7; omega
 ·rw [List.length_set]
  have e1 : AN (fun j => BA (Af (l.set i r) j) (if j = i then x else vs j)) l.length = AN (fun j => if j = i then BA r x else BA (Af l j) (vs j)) l.length :=
   AZ fun j hj => by
    rw [DV hj]
    by_cases e : j = i
    ·rw [if_pos e, if_pos e, if_pos e]
    ·rw [if_neg e, if_neg e, if_neg e]
  rw [e1, ← VZ (cs := fun j => BA (Af l j) (vs j)) (ys := BA r x) (sz := 7) (n := l.length) (i := i) (fun _ _ => rfl) hi, ← hxs]
  simp only [List.toList_toArray]
  exact VO (ys := BA r x) (A := cur.toList) (a := i * 7) (m := 7) (n := l.length * 7) rfl (by omega) (by rw [hcl]; omega)
 ·rw [List.length_set] at hj
  rw [DV hj]
  by_cases e : j = i
  ·subst e
   simp only [if_true]
   exact (AH.upd hr hu (fun b hb e => (h2 b hb).2 e)).weaken fun _ h => .inr h
  ·simp only [if_neg e]
   exact (AH.upd (h3 j hj) hu (fun b hb e => (h1 b hb).2 (by subst e; rfl))).weaken fun _ h => .inl h
theorem NF {S : Nat → Prop} (w : World) (r : An) (x : RV) (t : TypeId) (N : Nat) (hN : N = w.heap.size) (h : JZ S w r x) :
  AJ (fun b => S b ∨ b = N) (w.alloc (.cells (BA r x).toArray t)) (.slice (some ⟨N, 0, none⟩) 1 1) [r] := by
 subst hN
 refine ⟨fun _ => x, ⟨some ⟨w.heap.size, 0, none⟩, 1, rfl, Nat.le_refl _, by omega, by simp, fun _ => ⟨w.heap.size, 0, rfl, .inr rfl, fun i hi j u hu => ?_⟩⟩, fun i hi => ?_⟩
 ·obtain rfl : i = 0 := by simp at hi; omega
  refine Aa (heap_alloc_new w _) ?_
  have hu' : (BA r x)[j]? = some u := hu
  simpa using hu'
 ·obtain rfl : i = 0 := by simp at hi; omega
  exact (AH.below h bal).weaken fun _ h => .inl h
theorem BD.shape3 {S : Nat → Prop} {B : Nat} {w : World} {v : Value} {l : List An} (h : BD S B w v l) : ∃ a n c, v = .slice a n c := let ⟨a, c, e⟩ := h.shape; ⟨a, _, c, e⟩
def Ec (B : Nat) (w : World) (v : Value) (l : List An) : Prop := ∃ F : Nat → Prop, BD F B w v l ∧ ∀ b, F b → B ≤ b
theorem Oa {l : List An} {k : Nat} (h : k < l.length) : l.take (k + 1) = l.take k ++ [Af l k] := by
 rw [List.take_succ_eq_append_getElem h, Er h]
theorem NM (l : List An) (v : Value) (S : Nat → Prop) (w : World) (h : AJ S w v l) :
  Calls Tryz.prog 114 #[.agg #[v]] w fun e w' => ∃ v', e = .returned (.agg #[v']) ∧ Ec w.heap.size w' v' l ∧ Below w.heap.size w w' := by
 obtain ⟨a, n, cap, fr, HN, rfl, h1, h2, h3, h4, h5⟩ := h.open
 clear h
 have HL := zh (show l.take n = l by rw [HN.out]; exact List.take_length)
 have HT := zh (fun k (hk : k < n) => Oa (l := l) (k := k) (by rw [← HN.out]; exact hk))
 have HTl := zh (fun k => show (l.take k).length ≤ k by rw [List.length_take]; omega)
 obtain ⟨w3, hw3⟩ : ∃ w3, w3 = ((w.alloc (.cells #[.slice a n cap] 66)).alloc (.cells #[.slice none 0 0] 66)).alloc (.cells #[.slice none 0 0] 66) := ⟨_, rfl⟩
 have hs3 : w3.heap.size = w.heap.size + 3 := by rw [hw3]; simp
 have hb3 : Below w.heap.size w w3 := by rw [hw3]; exact FO [_, _, _] w
 have hcl3 := IV w w3 (w.heap.size + 2) (by omega) (by omega) hb3
 have g0 : w3.heap[w.heap.size]? = some (.cells #[.slice a n cap] 66 (0, 0)) := by rw [hw3]; exact Gs [_, _, _] w 0 _ rfl
 have g1 : w3.heap[w.heap.size + 1]? = some (.cells #[.slice none 0 0] 66 (0, 0)) := by rw [hw3]; exact Gs [_, _, _] w 1 _ rfl
 have g2 : w3.heap[w.heap.size + 2]? = some (.cells #[.slice none 0 0] 66 (0, 0)) := by rw [hw3]; exact Gs [_, _, _] w 2 _ rfl
 obtain ⟨R, hR⟩ : ∃ R : World → Prop, R = fun x => Below (w.heap.size + 2) w3 x := ⟨_, rfl⟩
 rw [← hR] at hcl3
 have hRb := hcl3.below
 have hRn := hcl3.next
 have hR3 : In R w3 := by rw [hR]; exact Below.refl _ _
 have HRu := zh (fun x y (T : Nat → Prop) (hx : In R x) (hu : Av T x y) (hT : ∀ b, T b → w.heap.size + 2 ≤ b) => show In R y by rw [hR] at hx ⊢; exact Below.trans (hx : Below _ _ _) (hu.below (by have := Below.size (hx : Below _ _ _); omega) hT))
 have HRs := zh (fun x (hx : In R x) => show w.heap.size + 3 ≤ x.heap.size by rw [hR] at hx; have := Below.size (hx : Below _ _ _); omega)
 have c0 : ∀ x, In R x → x.cell? ⟨w.heap.size, 0, none⟩ = some (.slice a n cap) := fun x hx => by rw [hR] at hx; exact Aa (j := 0) ((Below.block (hx : Below _ _ _) _ (by omega)).trans g0) rfl
 have HZ := zh (fun x (hx : In R x) => show x.heap[w.heap.size + 1]? = some (.cells #[.slice none 0 0] 66 (0, 0)) by rw [hR] at hx; exact (Below.block (hx : Below _ _ _) _ (by omega)).trans g1)
 have cc := c0 _ hR3
 have HI0 := zh (show ∃ va vn vc, Ec (w.heap.size + 3) w3 (.slice va vn vc) (l.take 0) ∧ w3.heap[w.heap.size + 2]? = some (.cells #[.slice va vn vc] 66 (0, 0)) from ⟨_, _, _, ⟨fun _ => False, BD.nil _ _ _ (fun _ h => h.elim), fun _ h => h.elim⟩, g2⟩)
 clear hR hcl3 g0 g1 g2 hs3 hb3
 have Hw3 := zh hw3
 rw [hw3] at cc
 clear hw3
 go_enter Tryz.func114, Tryz.ntmps114
 go_wp2_with fail
 rw [← Hw3.out]
 clear cc
 go_loopw [9] (fun i wr => ∃ k : Nat, k ≤ n ∧ i = .int .i64 k ∧ Hid (∃ va vn vc, Ec (w.heap.size + 3) wr (.slice va vn vc) (l.take k) ∧ wr.heap[w.heap.size + 2]? = some (.cells #[.slice va vn vc] 66 (0, 0))) ∧ In R wr) (fun i _ => n - (intOf i).toNat)
 case atStart => exact ⟨0, by omega, rfl, HI0.out, hR3⟩
 obtain ⟨k, hk, rfl, HI, hRw⟩ := hrel
 clear hR3 HI0
 obtain ⟨va, vn, vc, ⟨F, hO, hF⟩, hJ⟩ := HI.out
 have hsw := HRs.out _ hRw
 by_cases hlt : k < n
 ·obtain ⟨b, off, rfl, hb, k0, k1, k2, k3, k4, k5, k6⟩ := h4 (by omega)
  have x0 := k0 k wr hlt (hRb _ hRw)
  have x1 := k1 k wr hlt (hRb _ hRw)
  have x2 := k2 k wr hlt (hRb _ hRw)
  have x3 := k3 k wr hlt (hRb _ hRw)
  have x4 := k4 k wr hlt (hRb _ hRw)
  have x5 := k5 k wr hlt (hRb _ hRw)
  have x6 := k6 k wr hlt (hRb _ hRw)
  obtain ⟨Q, hQ, hQ1, hy⟩ := BW wr (c7 (Af l k) (fr k).sa (fr k).sc (fr k).ra (fr k).rc (fr k).oa (fr k).oc (fr k).ua (fr k).uc) 28
  have hQb := hQ.below
  have hQn := hQ.next
  have hQR : ∀ x, In Q x → In R x := fun x hx => hRn _ _ hRw (hQb x hx)
  have HS : ∀ x, In Q x → (fun x : World => x.cell? ⟨wr.heap.size, 0, none⟩ = some (.slice (fr k).sa (Af l k).store.length (fr k).sc) ∧ x.cell? ⟨wr.heap.size, 1, none⟩ = some (.slice (fr k).ra (Af l k).refs.length (fr k).rc) ∧ x.cell? ⟨wr.heap.size, 2, none⟩ = some (.int .i64 (Af l k).gen) ∧ x.cell? ⟨wr.heap.size, 3, none⟩ = some (.int .i64 (Af l k).phase) ∧ x.cell? ⟨wr.heap.size, 4, none⟩ = some (.slice (fr k).oa (Af l k).pend.objects.length (fr k).oc) ∧ x.cell? ⟨wr.heap.size, 5, none⟩ = some (.slice (fr k).ua (Af l k).pend.updates.length (fr k).uc) ∧ x.cell? ⟨wr.heap.size, 6, none⟩ = some (.bool (Af l k).pend.force)) x := fun x hx => ⟨hy 0 _ rfl x hx, hy 1 _ rfl x hx, hy 2 _ rfl x hx, hy 3 _ rfl x hx, hy 4 _ rfl x hx, hy 5 _ rfl x hx, hy 6 _ rfl x hx⟩
  have HO := zh (fun x (hx : In Q x) => hO.below (hQb _ hx))
  have HJ := zh (fun x (hx : In Q x) => ((hQb _ hx).block _ (show w.heap.size + 2 < wr.heap.size by omega)).trans hJ)
  have HC := zh (fun x (hx : In Q x) => MB (Af l k) _ _ _ _ _ x ((h5 k hlt).below (hRb _ (hQR _ hx))))
  simp only [Bf] at HC
  have hi1 : (0 : Int) ≤ (k : Int) := by omega
  have hi2 : (k : Int) < (n : Int) := by omega
  have Hob := zh (fun g (hg : (Value.slice va vn vc).ownBlock = some g) => hO.block hg)
  have HF := zh hF
  have hlk := HTl.out k
  have HTk := zh (HT.out k hlt)
  clear hy h4 h5 hO hJ hF HT HL c0 k0 k1 k2 k3 k4 k5 k6
  obtain ⟨wo, rfl⟩ : ∃ wo : World, wo = wr := ⟨_, rfl⟩
  go_wp2_with fail
  refine wp_region_held (S := (fun x : World => x.cell? ⟨wo.heap.size, 0, none⟩ = some (.slice (fr k).sa (Af l k).store.length (fr k).sc) ∧ x.cell? ⟨wo.heap.size, 1, none⟩ = some (.slice (fr k).ra (Af l k).refs.length (fr k).rc) ∧ x.cell? ⟨wo.heap.size, 2, none⟩ = some (.int .i64 (Af l k).gen) ∧ x.cell? ⟨wo.heap.size, 3, none⟩ = some (.int .i64 (Af l k).phase) ∧ x.cell? ⟨wo.heap.size, 4, none⟩ = some (.slice (fr k).oa (Af l k).pend.objects.length (fr k).oc) ∧ x.cell? ⟨wo.heap.size, 5, none⟩ = some (.slice (fr k).ua (Af l k).pend.updates.length (fr k).uc) ∧ x.cell? ⟨wo.heap.size, 6, none⟩ = some (.bool (Af l k).pend.force))) (by kernel_rfl) ?_
  change wpAnyH _ _ _ _ _ _ _ _ (World.drew _)
  have hC0 := hQ.drew _ hQ1
  generalize (wo.alloc _).drew = x0 at hC0 ⊢
  clear hQ1
  have hS0 := HS _ hC0
  refine tk 0 (.pointer (some ⟨w.heap.size + 2, 0, none⟩)) (fun w hSw => ?_) hS0 ?_
  ·go_simp
  simp only [tkS]
  refine tk 2 (.agg (c7 (Af l k) (fr k).sa (fr k).sc (fr k).ra (fr k).rc (fr k).oa (fr k).oc (fr k).ua (fr k).uc)) (fun w hSw => ?_) hS0 ?_
  ·obtain ⟨y0, y1, y2, y3, y4, y5, y6⟩ := hSw; go_simp
  simp only [tkS]
  refine al2 1 3 ?_ ?_
  ·skip
   refine Or.inl ?_
   have cJw := Aa (j := 0) (HJ.out _ hC0) rfl
   go_simp
   clear cJw
   refine al1 3 ?_
   refine Or.inl ?_
   go_wp2_with fail
   refine (HC.out _ hC0).mono ?_
   rintro e x1 ⟨sv1, rv1, ov1, uv1, rfl, hv, hb1⟩
   have hC1 := hQn _ _ hC0 hb1
   have hs0 := (hQb _ hC0).size
   have hs1 := hb1.size
   have Hv := zh hv
   obtain ⟨Bm, Bv, rfl⟩ := hv.store.vshape
   obtain ⟨⟨ra1, rc1⟩, rfl⟩ := hv.refs.shape
   obtain ⟨oa1, oc1, rfl⟩ := hv.objs.vshape
   obtain ⟨⟨ua1, uc1⟩, rfl⟩ := hv.upds.shape
   have hS1 := HS _ hC1
   clear hv hb1
   simp only [Bf]
   go_simp
   refine al1 4 ?_
   refine Or.inl ?_
   have hC2 := hQ.alloc _ (.cells (c7 (Af l k) Bm Bv ra1 rc1 oa1 oc1 ua1 uc1) 28) hC1
   have hS2 := HS _ hC2
   have hrow := zh (NF x1 (Af l k) ⟨.slice Bm (Af l k).store.length Bv, .slice ra1 (Af l k).refs.length rc1, .slice oa1 (Af l k).pend.objects.length oc1, .slice ua1 (Af l k).pend.updates.length uc1⟩ 28 x1.heap.size rfl (AH.lt Hv.out))
   go_simp
   refine al1 5 ?_
   refine Or.inl ?_
   obtain ⟨v4, x4, hr4, hO4, hu4⟩ := Fd 64 (HO.out _ hC2) hrow.out (fun b hb => ⟨by rcases hb with hb | hb; have := hb.2; simp; omega; simp; omega, fun e => by have := (Hob.out _ e).2; rcases hb with hb | hb; have := hb.1; omega; omega⟩) (by simp; omega) (by simp; omega)
   obtain ⟨a4, n4, c4, rfl⟩ := hO4.shape3
   refine Cw (.tmp 14) (.tmp 17) 64 (by rfl) _ _ _ (by rfl) (by rfl) hr4 ?_
   simp only [tkS]
   have hjo : ∀ b, (Value.slice va vn vc).ownBlock = some b → w.heap.size + 3 ≤ b ∧ b < wo.heap.size := fun b hb => Hob.out b hb
   have hS4 : (fun x : World => x.cell? ⟨wo.heap.size, 0, none⟩ = some (.slice (fr k).sa (Af l k).store.length (fr k).sc) ∧ x.cell? ⟨wo.heap.size, 1, none⟩ = some (.slice (fr k).ra (Af l k).refs.length (fr k).rc) ∧ x.cell? ⟨wo.heap.size, 2, none⟩ = some (.int .i64 (Af l k).gen) ∧ x.cell? ⟨wo.heap.size, 3, none⟩ = some (.int .i64 (Af l k).phase) ∧ x.cell? ⟨wo.heap.size, 4, none⟩ = some (.slice (fr k).oa (Af l k).pend.objects.length (fr k).oc) ∧ x.cell? ⟨wo.heap.size, 5, none⟩ = some (.slice (fr k).ua (Af l k).pend.updates.length (fr k).uc) ∧ x.cell? ⟨wo.heap.size, 6, none⟩ = some (.bool (Af l k).pend.force)) x4 := ⟨hu4.cell hS2.1 (fun e => absurd (hjo _ e).2 (Nat.lt_irrefl _)), hu4.cell hS2.2.1 (fun e => absurd (hjo _ e).2 (Nat.lt_irrefl _)), hu4.cell hS2.2.2.1 (fun e => absurd (hjo _ e).2 (Nat.lt_irrefl _)), hu4.cell hS2.2.2.2.1 (fun e => absurd (hjo _ e).2 (Nat.lt_irrefl _)), hu4.cell hS2.2.2.2.2.1 (fun e => absurd (hjo _ e).2 (Nat.lt_irrefl _)), hu4.cell hS2.2.2.2.2.2.1 (fun e => absurd (hjo _ e).2 (Nat.lt_irrefl _)), hu4.cell hS2.2.2.2.2.2.2 (fun e => absurd (hjo _ e).2 (Nat.lt_irrefl _))⟩
   have hJ4 := hu4.blk (HJ.out _ hC2) (fun e => by have := (hjo _ e).1; omega)
   have hR4 := HRu.out _ _ _ (hQR _ hC2) hu4 (fun b hb => by have := (hjo _ hb).1; omega)
   have HO4 := zh hO4
   refine ⟨hS4, ?_⟩
   clear hO4 hr4 hu4 hjo hrow
   refine al1 6 ?_
   refine Or.inl ?_
   go_simp
   first | refine ⟨hS4, ?_⟩ | skip
   refine al1 7 ?_
   refine Or.inl ?_
   have cJ := Aa (j := 0) hJ4 rfl
   have fJ := Ab (j := 0) hJ4
   go_wp2_with fail
   first | refine ⟨hS4, by kernel_rfl, ?_⟩ | refine ⟨by kernel_rfl, ?_⟩
   have hu5 : Av (fun b => b = w.heap.size + 2) x4 (x4.setCell ⟨w.heap.size + 2, 0, none⟩ (.slice a4 n4 c4)) := (Av.refl (fun b => b = w.heap.size + 2) x4).setCell (p := ⟨w.heap.size + 2, 0, none⟩) (fun _ => rfl) _
   have hJ5 : (x4.setCell ⟨w.heap.size + 2, 0, none⟩ (.slice a4 n4 c4)).heap[w.heap.size + 2]? = some (.cells #[.slice a4 n4 c4] 66 (0, 0)) := Ad (j := 0) hJ4 (.slice a4 n4 c4)
   have hR5 := HRu.out _ _ _ hR4 hu5 (fun b hb => by omega)
   have hge : ∀ b, (F b ∨ ((x0.heap.size ≤ b ∧ b < x1.heap.size) ∨ b = x1.heap.size)) → w.heap.size + 3 ≤ b := fun b hb => by rcases hb with hb | hb | hb; exact HF.out b hb; omega; omega
   have hO5 : Ec (w.heap.size + 3) _ (.slice a4 n4 c4) (l.take (k + 1)) := ⟨_, BD.list HTk.out.symm (HO4.out.upd hu5 (fun b hb e => by have := hge b hb; omega) (fun g hg e => by have := (HO4.out.block hg).1; omega)), hge⟩
   generalize x4.setCell ⟨w.heap.size + 2, 0, none⟩ (.slice a4 n4 c4) = x5 at *
   have HI5 := zh (show ∃ va vn vc, Ec (w.heap.size + 3) x5 (.slice va vn vc) (l.take (k + 1)) ∧ x5.heap[w.heap.size + 2]? = some (.cells #[.slice va vn vc] 66 (0, 0)) from ⟨_, _, _, hO5, hJ5⟩)
   clear hO5 hJ5 hge hu5 HO4 cJ fJ hS4 hJ4 hS0 hS1 hS2 HS HO HJ HC Hv HI
   go_wp2_with fail
   go_roundw
   case rel => exact ⟨k + 1, by omega, by go_num, HI5.out, hR5⟩
   case measure => simp [intOf]; omega
  refine Or.inl ?_
  go_wp2_with fail
  refine (HC.out _ hC0).mono ?_
  rintro e x1 ⟨sv1, rv1, ov1, uv1, rfl, hv, hb1⟩
  have hC1 := hQn _ _ hC0 hb1
  have hs0 := (hQb _ hC0).size
  have hs1 := hb1.size
  have Hv := zh hv
  obtain ⟨Bm, Bv, rfl⟩ := hv.store.vshape
  obtain ⟨⟨ra1, rc1⟩, rfl⟩ := hv.refs.shape
  obtain ⟨oa1, oc1, rfl⟩ := hv.objs.vshape
  obtain ⟨⟨ua1, uc1⟩, rfl⟩ := hv.upds.shape
  have hS1 := HS _ hC1
  clear hv hb1
  simp only [Bf]
  go_simp
  refine al2 1 4 ?_ ?_
  ·skip
   refine Or.inl ?_
   have cJw := Aa (j := 0) (HJ.out _ hC1) rfl
   go_simp
   clear cJw
   refine al1 4 ?_
   refine Or.inl ?_
   have hC2 := hQ.alloc _ (.cells (c7 (Af l k) Bm Bv ra1 rc1 oa1 oc1 ua1 uc1) 28) hC1
   have hS2 := HS _ hC2
   have hrow := zh (NF x1 (Af l k) ⟨.slice Bm (Af l k).store.length Bv, .slice ra1 (Af l k).refs.length rc1, .slice oa1 (Af l k).pend.objects.length oc1, .slice ua1 (Af l k).pend.updates.length uc1⟩ 28 x1.heap.size rfl (AH.lt Hv.out))
   go_simp
   refine al1 5 ?_
   refine Or.inl ?_
   obtain ⟨v4, x4, hr4, hO4, hu4⟩ := Fd 64 (HO.out _ hC2) hrow.out (fun b hb => ⟨by rcases hb with hb | hb; have := hb.2; simp; omega; simp; omega, fun e => by have := (Hob.out _ e).2; rcases hb with hb | hb; have := hb.1; omega; omega⟩) (by simp; omega) (by simp; omega)
   obtain ⟨a4, n4, c4, rfl⟩ := hO4.shape3
   refine Cw (.tmp 14) (.tmp 17) 64 (by rfl) _ _ _ (by rfl) (by rfl) hr4 ?_
   simp only [tkS]
   have hjo : ∀ b, (Value.slice va vn vc).ownBlock = some b → w.heap.size + 3 ≤ b ∧ b < wo.heap.size := fun b hb => Hob.out b hb
   have hS4 : (fun x : World => x.cell? ⟨wo.heap.size, 0, none⟩ = some (.slice (fr k).sa (Af l k).store.length (fr k).sc) ∧ x.cell? ⟨wo.heap.size, 1, none⟩ = some (.slice (fr k).ra (Af l k).refs.length (fr k).rc) ∧ x.cell? ⟨wo.heap.size, 2, none⟩ = some (.int .i64 (Af l k).gen) ∧ x.cell? ⟨wo.heap.size, 3, none⟩ = some (.int .i64 (Af l k).phase) ∧ x.cell? ⟨wo.heap.size, 4, none⟩ = some (.slice (fr k).oa (Af l k).pend.objects.length (fr k).oc) ∧ x.cell? ⟨wo.heap.size, 5, none⟩ = some (.slice (fr k).ua (Af l k).pend.updates.length (fr k).uc) ∧ x.cell? ⟨wo.heap.size, 6, none⟩ = some (.bool (Af l k).pend.force)) x4 := ⟨hu4.cell hS2.1 (fun e => absurd (hjo _ e).2 (Nat.lt_irrefl _)), hu4.cell hS2.2.1 (fun e => absurd (hjo _ e).2 (Nat.lt_irrefl _)), hu4.cell hS2.2.2.1 (fun e => absurd (hjo _ e).2 (Nat.lt_irrefl _)), hu4.cell hS2.2.2.2.1 (fun e => absurd (hjo _ e).2 (Nat.lt_irrefl _)), hu4.cell hS2.2.2.2.2.1 (fun e => absurd (hjo _ e).2 (Nat.lt_irrefl _)), hu4.cell hS2.2.2.2.2.2.1 (fun e => absurd (hjo _ e).2 (Nat.lt_irrefl _)), hu4.cell hS2.2.2.2.2.2.2 (fun e => absurd (hjo _ e).2 (Nat.lt_irrefl _))⟩
   have hJ4 := hu4.blk (HJ.out _ hC2) (fun e => by have := (hjo _ e).1; omega)
   have hR4 := HRu.out _ _ _ (hQR _ hC2) hu4 (fun b hb => by have := (hjo _ hb).1; omega)
   have HO4 := zh hO4
   refine ⟨hS4, ?_⟩
   clear hO4 hr4 hu4 hjo hrow
   refine al1 6 ?_
   refine Or.inl ?_
   go_simp
   first | refine ⟨hS4, ?_⟩ | skip
   refine al1 7 ?_
   refine Or.inl ?_
   have cJ := Aa (j := 0) hJ4 rfl
   have fJ := Ab (j := 0) hJ4
   go_wp2_with fail
   first | refine ⟨hS4, by kernel_rfl, ?_⟩ | refine ⟨by kernel_rfl, ?_⟩
   have hu5 : Av (fun b => b = w.heap.size + 2) x4 (x4.setCell ⟨w.heap.size + 2, 0, none⟩ (.slice a4 n4 c4)) := (Av.refl (fun b => b = w.heap.size + 2) x4).setCell (p := ⟨w.heap.size + 2, 0, none⟩) (fun _ => rfl) _
   have hJ5 : (x4.setCell ⟨w.heap.size + 2, 0, none⟩ (.slice a4 n4 c4)).heap[w.heap.size + 2]? = some (.cells #[.slice a4 n4 c4] 66 (0, 0)) := Ad (j := 0) hJ4 (.slice a4 n4 c4)
   have hR5 := HRu.out _ _ _ hR4 hu5 (fun b hb => by omega)
   have hge : ∀ b, (F b ∨ ((x0.heap.size ≤ b ∧ b < x1.heap.size) ∨ b = x1.heap.size)) → w.heap.size + 3 ≤ b := fun b hb => by rcases hb with hb | hb | hb; exact HF.out b hb; omega; omega
   have hO5 : Ec (w.heap.size + 3) _ (.slice a4 n4 c4) (l.take (k + 1)) := ⟨_, BD.list HTk.out.symm (HO4.out.upd hu5 (fun b hb e => by have := hge b hb; omega) (fun g hg e => by have := (HO4.out.block hg).1; omega)), hge⟩
   generalize x4.setCell ⟨w.heap.size + 2, 0, none⟩ (.slice a4 n4 c4) = x5 at *
   have HI5 := zh (show ∃ va vn vc, Ec (w.heap.size + 3) x5 (.slice va vn vc) (l.take (k + 1)) ∧ x5.heap[w.heap.size + 2]? = some (.cells #[.slice va vn vc] 66 (0, 0)) from ⟨_, _, _, hO5, hJ5⟩)
   clear hO5 hJ5 hge hu5 HO4 cJ fJ hS4 hJ4 hS0 hS1 hS2 HS HO HJ HC Hv HI
   go_wp2_with fail
   go_roundw
   case rel => exact ⟨k + 1, by omega, by go_num, HI5.out, hR5⟩
   case measure => simp [intOf]; omega
  refine Or.inl ?_
  have hC2 := hQ.alloc _ (.cells (c7 (Af l k) Bm Bv ra1 rc1 oa1 oc1 ua1 uc1) 28) hC1
  have hS2 := HS _ hC2
  have hrow := zh (NF x1 (Af l k) ⟨.slice Bm (Af l k).store.length Bv, .slice ra1 (Af l k).refs.length rc1, .slice oa1 (Af l k).pend.objects.length oc1, .slice ua1 (Af l k).pend.updates.length uc1⟩ 28 x1.heap.size rfl (AH.lt Hv.out))
  go_simp
  refine al1 1 ?_
  refine Or.inl ?_
  have cJw := Aa (j := 0) (HJ.out _ hC2) rfl
  go_simp
  clear cJw
  refine al1 5 ?_
  refine Or.inl ?_
  obtain ⟨v4, x4, hr4, hO4, hu4⟩ := Fd 64 (HO.out _ hC2) hrow.out (fun b hb => ⟨by rcases hb with hb | hb; have := hb.2; simp; omega; simp; omega, fun e => by have := (Hob.out _ e).2; rcases hb with hb | hb; have := hb.1; omega; omega⟩) (by simp; omega) (by simp; omega)
  obtain ⟨a4, n4, c4, rfl⟩ := hO4.shape3
  refine Cw (.tmp 14) (.tmp 17) 64 (by rfl) _ _ _ (by rfl) (by rfl) hr4 ?_
  simp only [tkS]
  have hjo : ∀ b, (Value.slice va vn vc).ownBlock = some b → w.heap.size + 3 ≤ b ∧ b < wo.heap.size := fun b hb => Hob.out b hb
  have hS4 : (fun x : World => x.cell? ⟨wo.heap.size, 0, none⟩ = some (.slice (fr k).sa (Af l k).store.length (fr k).sc) ∧ x.cell? ⟨wo.heap.size, 1, none⟩ = some (.slice (fr k).ra (Af l k).refs.length (fr k).rc) ∧ x.cell? ⟨wo.heap.size, 2, none⟩ = some (.int .i64 (Af l k).gen) ∧ x.cell? ⟨wo.heap.size, 3, none⟩ = some (.int .i64 (Af l k).phase) ∧ x.cell? ⟨wo.heap.size, 4, none⟩ = some (.slice (fr k).oa (Af l k).pend.objects.length (fr k).oc) ∧ x.cell? ⟨wo.heap.size, 5, none⟩ = some (.slice (fr k).ua (Af l k).pend.updates.length (fr k).uc) ∧ x.cell? ⟨wo.heap.size, 6, none⟩ = some (.bool (Af l k).pend.force)) x4 := ⟨hu4.cell hS2.1 (fun e => absurd (hjo _ e).2 (Nat.lt_irrefl _)), hu4.cell hS2.2.1 (fun e => absurd (hjo _ e).2 (Nat.lt_irrefl _)), hu4.cell hS2.2.2.1 (fun e => absurd (hjo _ e).2 (Nat.lt_irrefl _)), hu4.cell hS2.2.2.2.1 (fun e => absurd (hjo _ e).2 (Nat.lt_irrefl _)), hu4.cell hS2.2.2.2.2.1 (fun e => absurd (hjo _ e).2 (Nat.lt_irrefl _)), hu4.cell hS2.2.2.2.2.2.1 (fun e => absurd (hjo _ e).2 (Nat.lt_irrefl _)), hu4.cell hS2.2.2.2.2.2.2 (fun e => absurd (hjo _ e).2 (Nat.lt_irrefl _))⟩
  have hJ4 := hu4.blk (HJ.out _ hC2) (fun e => by have := (hjo _ e).1; omega)
  have hR4 := HRu.out _ _ _ (hQR _ hC2) hu4 (fun b hb => by have := (hjo _ hb).1; omega)
  have HO4 := zh hO4
  refine ⟨hS4, ?_⟩
  clear hO4 hr4 hu4 hjo hrow
  refine al1 6 ?_
  refine Or.inl ?_
  go_simp
  first | refine ⟨hS4, ?_⟩ | skip
  refine al1 7 ?_
  refine Or.inl ?_
  have cJ := Aa (j := 0) hJ4 rfl
  have fJ := Ab (j := 0) hJ4
  go_wp2_with fail
  first | refine ⟨hS4, by kernel_rfl, ?_⟩ | refine ⟨by kernel_rfl, ?_⟩
  have hu5 : Av (fun b => b = w.heap.size + 2) x4 (x4.setCell ⟨w.heap.size + 2, 0, none⟩ (.slice a4 n4 c4)) := (Av.refl (fun b => b = w.heap.size + 2) x4).setCell (p := ⟨w.heap.size + 2, 0, none⟩) (fun _ => rfl) _
  have hJ5 : (x4.setCell ⟨w.heap.size + 2, 0, none⟩ (.slice a4 n4 c4)).heap[w.heap.size + 2]? = some (.cells #[.slice a4 n4 c4] 66 (0, 0)) := Ad (j := 0) hJ4 (.slice a4 n4 c4)
  have hR5 := HRu.out _ _ _ hR4 hu5 (fun b hb => by omega)
  have hge : ∀ b, (F b ∨ ((x0.heap.size ≤ b ∧ b < x1.heap.size) ∨ b = x1.heap.size)) → w.heap.size + 3 ≤ b := fun b hb => by rcases hb with hb | hb | hb; exact HF.out b hb; omega; omega
  have hO5 : Ec (w.heap.size + 3) _ (.slice a4 n4 c4) (l.take (k + 1)) := ⟨_, BD.list HTk.out.symm (HO4.out.upd hu5 (fun b hb e => by have := hge b hb; omega) (fun g hg e => by have := (HO4.out.block hg).1; omega)), hge⟩
  generalize x4.setCell ⟨w.heap.size + 2, 0, none⟩ (.slice a4 n4 c4) = x5 at *
  have HI5 := zh (show ∃ va vn vc, Ec (w.heap.size + 3) x5 (.slice va vn vc) (l.take (k + 1)) ∧ x5.heap[w.heap.size + 2]? = some (.cells #[.slice va vn vc] 66 (0, 0)) from ⟨_, _, _, hO5, hJ5⟩)
  clear hO5 hJ5 hge hu5 HO4 cJ fJ hS4 hJ4 hS0 hS1 hS2 HS HO HJ HC Hv HI
  go_wp2_with fail
  go_roundw
  case rel => exact ⟨k + 1, by omega, by go_num, HI5.out, hR5⟩
  case measure => simp [intOf]; omega
 ·obtain rfl : k = n := by omega
  rw [HL.out] at hO
  have HOk := zh (And.intro hO hF)
  have hZ := HZ.out _ hRw
  have cJ := Aa (j := 0) hJ rfl
  have cZ := Aa (j := 0) hZ rfl
  have fZ := Ab (j := 0) hZ
  clear hO hF HI c0
  go_wp2_with fail
  have hu5 : Av (fun b => b = w.heap.size + 1) wr (wr.setCell ⟨w.heap.size + 1, 0, none⟩ (.slice va vn vc)) := (Av.refl (fun b => b = w.heap.size + 1) wr).setCell (p := ⟨w.heap.size + 1, 0, none⟩) (fun _ => rfl) _
  have hk5 : (wr.setCell ⟨w.heap.size + 1, 0, none⟩ (.slice va vn vc)).heap[w.heap.size + 1]? = some (.cells #[.slice va vn vc] 66 (0, 0)) := Ad (j := 0) hZ (.slice va vn vc)
  generalize wr.setCell ⟨w.heap.size + 1, 0, none⟩ (.slice va vn vc) = x5 at *
  have k0 := Aa (j := 0) hk5 rfl
  refine bodyPost_ret (v := .agg #[.slice va vn vc]) (by simp [results, Tryz.results114, go_sem]; simp [k0] <;> rfl) rfl ?_
  refine ⟨_, rfl, ⟨F, (HOk.out.1.upd hu5 (fun b hb e => by have := HOk.out.2 b hb; omega) (fun g hg e => by have := (HOk.out.1.block hg).1; omega)).weaken (B' := w.heap.size) (fun _ h => h) (fun b hb => ⟨Nat.lt_of_lt_of_le (HOk.out.1.lt hb) hu5.size, HOk.out.1.own hb⟩) (by omega), fun b hb => by have := HOk.out.2 b hb; omega⟩, (hRb _ hRw).trans (hu5.below (B := w.heap.size) (hRb _ hRw).size (fun b hb => by omega))⟩
structure Be (l : List An) : Prop where
 len : l.length = 3
 each : ∀ i, i < 3 → Ct (Af l i)
 refs : ∀ i j, i < 3 → j < 3 → (Af l i).gen = (Af l j).gen → (Af l i).refs = (Af l j).refs
 top : ∃ i j, i < j ∧ j < 3 ∧ (Af l i).gen = (Af l j).gen ∧ ∀ k, k < 3 → (Af l k).gen ≤ (Af l i).gen
theorem OX (l : List An) (g : Int) : NQ l g 3 = (if (Af l 0).gen = g then 1 else 0) + (if (Af l 1).gen = g then 1 else 0) + (if (Af l 2).gen = g then 1 else 0) := by
 simp only [NQ]; omega
theorem Mm {x y : An} : Ik x y = false ↔ (x.gen = y.gen → x.refs = y.refs) := by
 unfold Ik
 by_cases h : x.gen = y.gen
 ·rw [show (x.gen == y.gen) = true by simpa using h, Bool.true_and, Bool.not_eq_false', Ep]
  exact ⟨fun e _ => e, fun e => e h⟩
 ·rw [show (x.gen == y.gen) = false by simpa using h, Bool.false_and]
  exact ⟨fun _ e => absurd e h, fun _ => rfl⟩
theorem XE {l : List An} {i k : Nat} (hi : i ≤ l.length) (h : Fi l i = false) (hk : k < i) : Ik (Af l i) (Af l k) = false := by
 cases ho : Ik (Af l i) (Af l k)
 ·rfl
 ·rw [WL hi hk ho] at h; cases h
theorem Eg {l : List An} : CJ l = 0 ↔ Be l := by
 constructor
 ·intro h
  obtain ⟨hl, h1, h2, h3⟩ := UD h
  have hrf : ∀ i j, j < i → i < 3 → (Af l i).gen = (Af l j).gen → (Af l i).refs = (Af l j).refs := fun i j hij hi => Mm.1 (XE (by omega) (h2 i hi) hij)
  refine ⟨hl, fun i hi => Bg.1 (h1 i hi), fun i j hi hj e => ?_, ?_⟩
  ·rcases Nat.lt_trichotomy i j with h | h | h
   ·exact (hrf j i h hj e.symm).symm
   ·subst h; rfl
   ·exact hrf i j h hi e
  ·have hb := (IT l l.length).1
   rw [hl] at hb
   rw [Nm, hl, OX] at h3
   have hbe : (AP l 3).1 = Co l := by unfold Co; rw [hl]
   rw [hbe] at hb
   generalize (Af l (Co l)).gen = G at *
   have g0 := hb 0 (by omega)
   have g1 := hb 1 (by omega)
   have g2 := hb 2 (by omega)
   by_cases e0 : (Af l 0).gen = G
   ·by_cases e1 : (Af l 1).gen = G
    ·exact ⟨0, 1, by omega, by omega, by omega, fun k hk => by rw [e0]; exact hb k hk⟩
    ·by_cases e2 : (Af l 2).gen = G
     ·exact ⟨0, 2, by omega, by omega, by omega, fun k hk => by rw [e0]; exact hb k hk⟩
     ·rw [if_pos e0, if_neg e1, if_neg e2] at h3; omega
   ·by_cases e1 : (Af l 1).gen = G
    ·by_cases e2 : (Af l 2).gen = G
     ·exact ⟨1, 2, by omega, by omega, by omega, fun k hk => by rw [e1]; exact hb k hk⟩
     ·rw [if_neg e0, if_pos e1, if_neg e2] at h3; omega
    ·rw [if_neg e0, if_neg e1] at h3
     split at h3 <;> omega
 ·intro h
  have h0 : Ap (fun i => Al (Af l i)) 3 = 0 := AW fun k hk => Bg.2 (h.each k hk)
  have h1 : Ap (JF l) 3 = 0 := AW fun k hk => by
   unfold JF
   rw [Ts (by rw [h.len]; omega) (fun j hj => Mm.2 fun e => h.refs k j hk (by omega) e)]; rfl
  rw [NG h.len h0 h1]
  refine if_neg ?_
  rw [Nm, h.len]
  obtain ⟨i, j, hij, hj, e, hm⟩ := h.top
  have hb := (IT l l.length).1
  rw [h.len] at hb
  have hbe : (AP l 3).1 = Co l := by unfold Co; rw [h.len]
  rw [hbe] at hb
  have hG : (Af l (Co l)).gen = (Af l i).gen := by
   have hlt : Co l < 3 := by have := GL (l := l) (by have := h.len; omega); have := h.len; omega
   have := hm _ hlt
   have := hb i (by omega)
   omega
  rw [hG, OX]
  have hcase : (i = 0 ∧ j = 1) ∨ (i = 0 ∧ j = 2) ∨ (i = 1 ∧ j = 2) := by omega
  rcases hcase with ⟨rfl, rfl⟩ | ⟨rfl, rfl⟩ | ⟨rfl, rfl⟩
  ·rw [if_pos rfl, if_pos e.symm]; split <;> omega
  ·rw [if_pos rfl, if_pos e.symm]; split <;> omega
  ·rw [if_pos rfl, if_pos e.symm]; split <;> omega
def DN (n : Int) (i : Nat) : Bool := n / 2 ^ i % 2 == 1
def BU (l : List An) (p : BJ) (up : Int) (i : Nat) : ByteArray := if DN up i = true ∧ (Af l i).phase = 0 then Cu (Af l i) p else ByteArray.empty
def Cf (l : List An) (p : BJ) (up : Int) : List ByteArray := [BU l p up 0, BU l p up 1, BU l p up 2]
def Bi (l : List An) (p : BJ) (up late : Int) (i : Nat) : Bool := (CS (Cf l p up)).2 && ((BU l p up i).toList == (CS (Cf l p up)).1.toList) && !DN late i
def Dv (l : List An) (p : BJ) (up late : Int) : Nat → Nat
 | 0 => 0
 | k + 1 => Dv l p up late k + if Bi l p up late k = true then 1 else 0
def Ea (p : BJ) (up late : Int) : Int := if As p ≠ 0 then As p else if 0 ≤ up ∧ up ≤ 7 ∧ 0 ≤ late ∧ late ≤ 7 then 0 else 3
def Ck (l : List An) (p : BJ) (up late : Int) : Bool := decide (2 ≤ Dv l p up late 3)
def Dd (l : List An) (p : BJ) (up late : Int) (i : Nat) : Int := if Ck l p up late = true ∧ Bi l p up late i = true ∧ (Af l i).gen = 999 then 2 else 0
def BT (l : List An) (p : BJ) (up late : Int) : Int := if Ea p up late ≠ 0 then Ea p up late else Ap (Dd l p up late) 3
def Bs (l : List An) (p : BJ) (up late : Int) (i : Nat) : An := if Ck l p up late = true ∧ Bi l p up late i = true then DQ (Af l i) p else Af l i
def Bj (l : List An) (p : BJ) (up late : Int) : List An := if BT l p up late = 0 then [Bs l p up late 0, Bs l p up late 1, Bs l p up late 2] else []
def CD (l : List An) (p : BJ) (up late : Int) : Bool := if BT l p up late = 0 then Ck l p up late else false
theorem RJ {l : List An} (h : l.length = 3) : l = [Af l 0, Af l 1, Af l 2] := by
 match l, h with
 | [a, b, c], _ => rfl
theorem TU {l : List An} {p : BJ} {up late : Int} (h : BT l p up late = 0) {i : Nat} (hi : i < 3) : Af (Bj l p up late) i = Bs l p up late i := by
 unfold Bj
 rw [if_pos h]
 have : i = 0 ∨ i = 1 ∨ i = 2 := by omega
 rcases this with rfl | rfl | rfl <;> rfl
theorem Ru (l : List An) (p : BJ) (up late : Int) : Dv l p up late 3 = (if Bi l p up late 0 = true then 1 else 0) + (if Bi l p up late 1 = true then 1 else 0) + (if Bi l p up late 2 = true then 1 else 0) := by
 simp only [Dv]; omega
theorem Nc (l : List An) (p : BJ) (up late : Int) : ∀ k, Dv l p up late k ≤ k
 | 0 => Nat.le_refl _
 | k + 1 => by have := Nc l p up late k; unfold Dv; split <;> omega
def Vd (l : List UInt8) : Nat := l.foldl (fun a c => a * 10 + (c.toNat - 48)) 0
theorem Tk : ∀ n, n < 1000 → Vd (Lib.decDigits n) = n := by
 have h : (List.range 1000).all (fun n => Vd (Lib.decDigits n) == n) = true := by decide +kernel
 intro n hn
 have := List.all_eq_true.1 h n (List.mem_range.2 hn)
 simpa using this
theorem Xd {a b : Int} (ha : 0 ≤ a ∧ a ≤ 999) (hb : 0 ≤ b ∧ b ≤ 999) (h : AS a = AS b) : a = b := by
 unfold AS at h
 have h1 : Lib.decDigits a.toNat = Lib.decDigits b.toNat := by
  have := congrArg (fun x : ByteArray => x.data.toList) h
  simpa using this
 have h2 := congrArg Vd h1
 rw [Tk _ (by omega), Tk _ (by omega)] at h2
 omega
theorem XL {a b c : ByteArray} (h : a ++ b = a ++ c) : b = c := by
 have := congrArg (fun x : ByteArray => x.data.toList) h
 simp only [ByteArray.data_append, Array.toList_append] at this
 exact MP (List.append_cancel_left this)
theorem Qp {a b c : ByteArray} (h : a ++ c = b ++ c) : a = b := by
 have := congrArg (fun x : ByteArray => x.data.toList) h
 simp only [ByteArray.data_append, Array.toList_append] at this
 exact MP (List.append_cancel_right this)
theorem SB {r : An} {p : BJ} (h : GY (Cu r p) = true) : Bn r p = 0 := by
 by_cases ht : Bn r p = 0
 ·exact ht
 ·unfold Cu at h
  rw [if_pos ht] at h
  unfold GY at h
  rw [ByteArray.data_append, Array.toList_append] at h
  simp [YE] at h
theorem Wv {r s : An} {p : BJ} (hr : 0 ≤ r.gen ∧ r.gen ≤ 999) (hs : 0 ≤ s.gen ∧ s.gen ≤ 999) (h1 : Bn r p = 0) (h2 : Bn s p = 0) (h : Cu r p = Cu s p) : r.gen = s.gen := by
 unfold Cu at h
 rw [if_neg (by simpa using h1), if_neg (by simpa using h2)] at h
 exact Xd hr hs (XL (Qp (Qp h)))
structure Wi (l : List An) (p : BJ) (up late : Int) (i : Nat) : Prop where
 isUp : DN up i = true
 idle : (Af l i).phase = 0
 onTime : DN late i = false
 told : Cu (Af l i) p = (CS (Cf l p up)).1
 vote : Bn (Af l i) p = 0
theorem DU {l : List An} {p : BJ} {up late : Int} {i : Nat} (h : Bi l p up late i = true) : Wi l p up late i := by
 unfold Bi at h
 rw [Bool.and_eq_true, Bool.and_eq_true, BE, decide_eq_true_iff, Bool.not_eq_true'] at h
 obtain ⟨⟨h1, h2⟩, h3⟩ := h
 have hT : CS (Cf l p up) = ((CS (Cf l p up)).1, true) := Prod.ext rfl h1
 obtain ⟨_, _, hy⟩ := TA.1 hT
 rw [← h2] at hy
 unfold BU at hy h2
 by_cases hc : DN up i = true ∧ (Af l i).phase = 0
 ·rw [if_pos hc] at hy h2
  exact ⟨hc.1, hc.2, h3, h2, SB hy⟩
 ·rw [if_neg hc, OL] at hy; cases hy
theorem Nv {l : List An} {p : BJ} {up late : Int} (hc : Be l) {i j : Nat} (hi : i < 3) (hj : j < 3) (h1 : Wi l p up late i) (h2 : Wi l p up late j) : (Af l i).gen = (Af l j).gen :=
 Wv (hc.each i hi).gen (hc.each j hj).gen h1.vote h2.vote (h1.told.trans h2.told.symm)
theorem NA {l : List An} {p : BJ} {up late : Int} (hc : Be l) (hd : Ck l p up late = true) : ∃ i j, i < j ∧ j < 3 ∧ Wi l p up late i ∧ Wi l p up late j ∧ Bi l p up late i = true ∧ Bi l p up late j = true ∧ ∀ k, k < 3 → (Af l k).gen ≤ (Af l i).gen := by
 have hn : 2 ≤ Dv l p up late 3 := by simpa [Ck] using hd
 rw [Ru] at hn
 have hex : ∃ i j, i < j ∧ j < 3 ∧ Bi l p up late i = true ∧ Bi l p up late j = true := by
  by_cases c0 : Bi l p up late 0 = true
  ·by_cases c1 : Bi l p up late 1 = true
   ·exact ⟨0, 1, by omega, by omega, c0, c1⟩
   ·by_cases c2 : Bi l p up late 2 = true
    ·exact ⟨0, 2, by omega, by omega, c0, c2⟩
    ·rw [if_pos c0, if_neg c1, if_neg c2] at hn; omega
  ·by_cases c1 : Bi l p up late 1 = true
   ·by_cases c2 : Bi l p up late 2 = true
    ·exact ⟨1, 2, by omega, by omega, c1, c2⟩
    ·rw [if_neg c0, if_pos c1, if_neg c2] at hn; omega
   ·rw [if_neg c0, if_neg c1] at hn
    split at hn <;> omega
 obtain ⟨i, j, hij, hj, ci, cj⟩ := hex
 have Ci := DU ci
 have Cj := DU cj
 have hg := Nv hc (by omega) hj Ci Cj
 refine ⟨i, j, hij, hj, Ci, Cj, ci, cj, ?_⟩
 obtain ⟨a, b, hab, hb, e, hm⟩ := hc.top
 have : (Af l i).gen = (Af l a).gen := by
  have hx : i = a ∨ i = b ∨ j = a ∨ j = b := by omega
  rcases hx with rfl | rfl | rfl | rfl
  ·rfl
  ·exact e.symm
  ·exact hg
  ·rw [hg]; exact e.symm
 intro k hk
 rw [this]; exact hm k hk
theorem VR {l : List An} {p : BJ} {up late : Int} (he : BT l p up late = 0) (hd : Ck l p up late = true) {i : Nat} (hi : i < 3) (h : Bi l p up late i = true) : (Af l i).gen ≠ 999 := by
 intro hg
 unfold BT at he
 split at he
 ·rename_i h1; exact absurd he h1
 ·have := Bh he i hi
  unfold Dd at this
  rw [if_pos ⟨hd, h, hg⟩] at this; cases this
theorem TL {r s : An} {p : BJ} (h1 : Bn r p = 0) (h2 : Bn s p = 0) (h : r.refs = s.refs) : EG r p = EG s p := by
 rw [(RY h1).moved, (RY h2).moved, h]
theorem EK {l : List An} {p : BJ} {up late : Int} {i : Nat} (h : ¬ (Ck l p up late = true ∧ Bi l p up late i = true)) : Bs l p up late i = Af l i := by unfold Bs; rw [if_neg h]
theorem FP {l : List An} {p : BJ} {up late : Int} {i : Nat} (hd : Ck l p up late = true) (h : Bi l p up late i = true) : Bs l p up late i = DQ (Af l i) p := by unfold Bs; rw [if_pos ⟨hd, h⟩]
theorem Sj {l : List An} {p : BJ} {up late : Int} (hc : Be l) (he : BT l p up late = 0) : Be (Bj l p up late) := by
 have hat : ∀ i, i < 3 → Af (Bj l p up late) i = Bs l p up late i := fun i hi => TU he hi
 have hlen : (Bj l p up late).length = 3 := by unfold Bj; rw [if_pos he]; rfl
 cases hd : Ck l p up late
 ·have e : ∀ i, i < 3 → Af (Bj l p up late) i = Af l i := fun i hi => by rw [hat i hi]; exact EK (by simp [hd])
  refine ⟨hlen, fun i hi => by rw [e i hi]; exact hc.each i hi, fun i j hi hj => by rw [e i hi, e j hj]; exact hc.refs i j hi hj, ?_⟩
  obtain ⟨i, j, hij, hj, e1, hm⟩ := hc.top
  exact ⟨i, j, hij, hj, by rw [e i (by omega), e j hj]; exact e1, fun k hk => by rw [e k hk, e i (by omega)]; exact hm k hk⟩
 ·obtain ⟨i, j, hij, hj, Ci, Cj, ci, cj, hm⟩ := NA hc hd
  have hgen : ∀ k, k < 3 → (Af (Bj l p up late) k).gen ≤ (Af l i).gen + 1 ∧ (Bi l p up late k = true → (Af (Bj l p up late) k).gen = (Af l i).gen + 1) ∧ (Bi l p up late k = false → Af (Bj l p up late) k = Af l k) := fun k hk => by
   rw [hat k hk]
   cases hb : Bi l p up late k
   ·rw [EK (by simp [hb])]
    exact ⟨by have := hm k hk; omega, fun h => by (cases h), fun _ => rfl⟩
   ·rw [FP hd hb]
    have : (Af l k).gen = (Af l i).gen := Nv hc hk (by omega) (DU hb) Ci
    exact ⟨by show (Af l k).gen + 1 ≤ _; omega, fun _ => by show (Af l k).gen + 1 = _; omega, fun h => by (cases h)⟩
  refine ⟨hlen, fun k hk => ?_, fun a b ha hb e => ?_, ⟨i, j, hij, hj, ?_, fun k hk => ?_⟩⟩
  ·rw [hat k hk]
   cases hb : Bi l p up late k
   ·rw [EK (by simp [hb])]; exact hc.each k hk
   ·rw [FP hd hb]
    exact Ng (hc.each k hk) (DU hb).vote (VR he hd hk hb)
  ·cases ca : Bi l p up late a <;> cases cb : Bi l p up late b
   ·rw [(hgen a ha).2.2 ca, (hgen b hb).2.2 cb] at e ⊢; exact hc.refs a b ha hb e
   ·rw [(hgen a ha).2.2 ca, (hgen b hb).2.1 cb] at e; have := hm a ha; omega
   ·rw [(hgen a ha).2.1 ca, (hgen b hb).2.2 cb] at e; have := hm b hb; omega
   ·rw [hat a ha, hat b hb, FP hd ca, FP hd cb]
    exact TL (DU ca).vote (DU cb).vote (hc.refs a b ha hb (Nv hc ha hb (DU ca) (DU cb)))
  ·rw [(hgen i (by omega)).2.1 ci, (hgen j hj).2.1 cj]
  ·rw [(hgen i (by omega)).2.1 ci]; exact (hgen k hk).1
theorem Xs : ∀ (k : Fin 8) (i : Fin 3), (bits BinOp.and IntKind.i64 ((k.1 : Int) / 2 ^ min i.1 64) 1 == 0) = (!DN (k.1 : Int) i.1) ∧ (bits BinOp.and IntKind.i64 ((k.1 : Int) / 2 ^ min i.1 64) 1 == 1) = DN (k.1 : Int) i.1 := by decide +kernel
theorem Tg {n : Int} {i : Nat} (h : 0 ≤ n ∧ n ≤ 7) (hi : i < 3) : (bits BinOp.and IntKind.i64 (n / 2 ^ min i 64) 1 == 0) = (!DN n i) ∧ (bits BinOp.and IntKind.i64 (n / 2 ^ min i 64) 1 == 1) = DN n i := by
 obtain ⟨k, rfl⟩ : ∃ k : Nat, n = (k : Int) := ⟨n.toNat, by omega⟩
 exact Xs ⟨k, by omega⟩ ⟨i, hi⟩
theorem LB (M i : Nat) (vv : Value) (vs : List ByteArray) (t : ByteArray) (late : Int) (S : Nat → Prop) (w : World) (c1 : w.cell? ⟨M, 1, none⟩ = some vv) (c2 : w.cell? ⟨M, 2, none⟩ = some (.string t)) (hv : CZ S w vv vs) (hi : i < vs.length) (hl : 0 ≤ late ∧ late ≤ 7) (hn : vs.length ≤ 3) :
  Calls Tryz.prog 250 #[.pointer (some ⟨M, 0, none⟩), .int .i64 (i : Int), .int .i64 late] w fun e w' => e = .returned (.bool (((sa vs i).toList == t.toList) && !DN late i)) ∧ Below w.heap.size w w' := by
 obtain ⟨a, n, cap, HN, rfl, h1, h2, h3, h4⟩ := hv.open
 obtain ⟨b, off, rfl, _, h5⟩ := h4 (by have := HN.out; omega)
 have hin : i < n := by have := HN.out; omega
 have i1 : (0 : Int) ≤ (i : Int) := by omega
 have i2 : (i : Int) < (n : Int) := by omega
 have x0 := h5 i w hin (Below.refl _ _)
 have HL := zh hl
 have HNn := zh hn
 clear hv hi hl hn h4 h5 h1 h2 h3
 generalize sa vs i = s at *
 have Hb := zh (Tg (n := late) (i := i) HL.out (by have := HNn.out; have := HN.out; omega)).1
 cases hq : (s.toList == t.toList)
 all_goals
  go_enter Tryz.func250, Tryz.ntmps250
  go_wp2_with fail
  go_quiet (fail)
  generalize hw2 : w.drewN _ = w2
  have HE := zh (show Below w.heap.size w w2 by rw [← hw2]; exact Cx w _ _ (Below.refl _ _))
  clear hw2
  go_wp2_with fail
  go_ret
 ·exact ⟨rfl, HE.out⟩
 ·exact ⟨by rw [Hb.out]; rfl, HE.out⟩
def Ni (B : Nat) (w : World) (v : Value) (l : List ByteArray) : Prop := w.ownsRow B 9 1 v l.length (l.map Value.string) ∧ ∀ s ∈ l, s.size ≤ 140737488351232
theorem Ni.below {B : Nat} {w w' : World} {v : Value} {l : List ByteArray} (h : Ni B w v l) (hb : Below w.heap.size w w') : Ni B w' v l := ⟨DJ h.1 hb, h.2⟩
theorem Ni.upd {T : Nat → Prop} {B : Nat} {w w' : World} {v : Value} {l : List ByteArray} (h : Ni B w v l) (hu : Av T w w') (hT : ∀ g, v.ownBlock = some g → ¬ T g) : Ni B w' v l := ⟨Fp h.1 hu hT, h.2⟩
theorem Ni.strs {B : Nat} {w : World} {v : Value} {l : List ByteArray} (h : Ni B w v l) (hl : l.length ≤ 3) : CZ (fun b => B ≤ b) w v l := Vh h.1 rfl h.2 (by omega)
def Cr (B g c M : Nat) (w : World) (L : List An) (vs : List ByteArray) (t : ByteArray) : Prop :=
 ∃ (F : Nat → Prop) (vv : Value), BD F B w (.slice (some ⟨g, 0, none⟩) L.length c) L ∧ Ni B w vv vs ∧ (∀ b, F b → B ≤ b ∧ b ≠ M ∧ vv.ownBlock ≠ some b) ∧ vv.ownBlock ≠ some M ∧ vv.ownBlock ≠ some g ∧ g ≠ M ∧
  w.heap[M]? = some (.cells #[.slice (some ⟨g, 0, none⟩) L.length c, vv, .string t] 238 (0, 0))
theorem Cr.below {B g c M : Nat} {w w' : World} {L : List An} {vs : List ByteArray} {t : ByteArray} (h : Cr B g c M w L vs t) (hb : Below w.heap.size w w') : Cr B g c M w' L vs t := by
 obtain ⟨F, vv, h1, h2, h3, h4, h5, h6, h7⟩ := h
 exact ⟨F, vv, h1.below hb, h2.below hb, h3, h4, h5, h6, (hb.block _ (lt_of_block h7)).trans h7⟩
def GK (vs : List ByteArray) (t : ByteArray) (ok : Bool) (late : Int) : Nat → Nat
 | 0 => 0
 | k + 1 => GK vs t ok late k + if (ok && (((sa vs k).toList == t.toList) && !DN late k)) = true then 1 else 0
theorem PG (vs : List ByteArray) (t : ByteArray) (ok : Bool) (late : Int) : ∀ k, GK vs t ok late k ≤ k
 | 0 => Nat.le_refl _
 | k + 1 => by have := PG vs t ok late k; unfold GK; split <;> omega
def Tx (M : Nat) (late : Int) (w : World) (f : Value) : Prop := ∃ p q : Nat, f = .func (.func 251) #[] #[.pointer (some ⟨p, 0, none⟩), .pointer (some ⟨q, 0, none⟩)] ∧ w.heap[p]? = some (.cells #[.pointer (some ⟨M, 0, none⟩)] 236 (0, 0)) ∧ w.heap[q]? = some (.cells #[.int .i64 late] 3 (0, 0))
theorem RW (g c M B : Nat) (w : World) (L : List An) (vs : List ByteArray) (t0 : ByteArray) (late : Int) (hM : Cr B g c M w L vs t0) (h3 : vs.length = 3) (hl : 0 ≤ late ∧ late ≤ 7) (hBM : B ≤ M) :
  Calls Tryz.prog 218 #[.pointer (some ⟨M, 0, none⟩), .int .i64 late] w fun e w' => ∃ f, e = .returned f ∧ Below B w w' ∧ Cr B g c M w' L vs (CO vs).1 ∧ (¬ 2 ≤ GK vs (CO vs).1 (CO vs).2 late 3 → f = .nilFunc) ∧ (2 ≤ GK vs (CO vs).1 (CO vs).2 late 3 → Tx M late w' f) := by
 have HM := zh hM
 obtain ⟨F, vv, hO, hV, hF, hvM, hvg, hgM, hMb⟩ := hM
 have hMs : M < w.heap.size := lt_of_block hMb
 have HO := zh hO
 have HV := zh hV
 have HF := zh hF
 have HvM := zh hvM
 have Hvg := zh hvg
 have HgM := zh hgM
 have HMb := zh hMb
 have H3 := zh h3
 have HLt := zh hl
 obtain ⟨⟨va, vc⟩, hvv⟩ := (hV.strs (by omega)).shape
 obtain ⟨n, hn⟩ : ∃ n : Nat, n = 3 := ⟨3, rfl⟩
 clear hO hV hF hvM hvg hgM h3 hl HM
 obtain ⟨R, hR, hR1, HB0⟩ := AI w [.cells #[.pointer (some ⟨M, 0, none⟩)] 236, .cells #[.int .i64 late] 3]
 simp only [List.foldl] at hR1
 have hRb := hR.below
 have hRn := hR.next
 have q2 := fun x (hx : In R x) => Aa (j := 0) (HB0 x hx 0 _ rfl) rfl
 have q3 := fun x (hx : In R x) => Aa (j := 0) (HB0 x hx 1 _ rfl) rfl
 simp only [Nat.add_zero] at q2 q3
 have m1 := fun x (hx : In R x) => Ai (hRb _ hx) (Aa (j := 1) hMb rfl)
 have HC := zh (Ux vs vv _ _ ((HV.out.strs (by have := H3.out; omega)).below (hRb _ hR1)))
 have Hvv := zh hvv
 subst hvv
 simp only [H3.out] at m1 HC
 clear hMb Hvv
 obtain ⟨told, htold⟩ : ∃ told, told = (CO vs).1 := ⟨_, rfl⟩
 obtain ⟨ok, hok⟩ : ∃ ok, ok = (CO vs).2 := ⟨_, rfl⟩
 rw [← htold, ← hok] at HC ⊢
 clear htold hok
 go_enter Tryz.func218, Tryz.ntmps218
 go_wp2_with fail
 refine HC.out.mono ?_
 rintro e x1 ⟨rfl, hb1⟩
 have hRx := hRn _ _ hR1 hb1
 have hbx := hRb _ hRx
 have hMx := (hbx.block _ hMs).trans HMb.out
 have j2 := Aa (j := 2) hMx rfl
 have f2 := Ab (j := 2) hMx
 have hU : Av (fun b => b = M) x1 (x1.setCell ⟨M, 2, none⟩ (.string told)) := (Av.refl (fun b => b = M) _).setCell (p := ⟨M, 2, none⟩) (fun _ => rfl) _
 have hM2 := Ad (j := 2) hMx (.string told)
 simp only [List.setIfInBounds_toArray, List.set_cons_zero, List.set_cons_succ] at hM2
 have b2 := HB0 x1 hRx 0 _ rfl
 have b3 := HB0 x1 hRx 1 _ rfl
 simp only [Nat.add_zero] at b2
 have k2 := hU.blk b2 (by omega)
 have k3 := hU.blk b3 (by omega)
 obtain ⟨T, hT, hT1, _⟩ := Ay (x1.setCell ⟨M, 2, none⟩ (.string told))
 have hTb := hT.below
 have hTn := hT.next
 have s2 := fun x (hx : In T x) => Ai (hTb _ hx) (Aa (j := 0) k2 rfl)
 have s3 := fun x (hx : In T x) => Ai (hTb _ hx) (Aa (j := 0) k3 rfl)
 have Hk := zh (fun x (hx : In T x) => And.intro (((hTb _ hx).block _ (lt_of_block k2)).trans k2) (((hTb _ hx).block _ (lt_of_block k3)).trans k3))
 have s1 := fun x (hx : In T x) => Ai (hTb _ hx) (Aa (j := 1) hM2 rfl)
 have s4 := fun x (hx : In T x) => Ai (hTb _ hx) (Aa (j := 2) hM2 rfl)
 have hVx := (HV.out.below hbx).upd hU (fun q hq e => HvM.out (by rw [hq, e]))
 have HC2 := zh (fun x (hx : In T x) (k : Nat) (hk : k < 3) => LB M k (.slice va vs.length vc) vs told late _ x (s1 x hx) (s4 x hx) ((hVx.strs (by have := H3.out; omega)).below (hTb _ hx)) (by rw [H3.out]; exact hk) HLt.out (by rw [H3.out]; exact Nat.le_refl _))
 have HLd := zh (show Cr B g c M (x1.setCell ⟨M, 2, none⟩ (.string told)) L vs told from ⟨F, _, (HO.out.below hbx).upd hU (fun b hb e => (HF.out b hb).2.1 e) (fun q hq e => by simp only [Value.ownBlock, Option.some.injEq] at hq; exact HgM.out (hq.trans e)), hVx, HF.out, HvM.out, Hvg.out, HgM.out, hM2⟩)
 have HBw := zh ((hbx.mono (show B ≤ w.heap.size by omega)).trans (hU.below (B := B) (by have := hbx.size; omega) (fun b hb => by subst hb; exact hBM)))
 have z1 := s1 _ hT1
 have z2 := s2 _ hT1
 have z3 := s3 _ hT1
 simp only [H3.out] at s1 z1
 clear hVx hU hM2 k2 k3 b2 b3 hMx hbx HC hb1 s4
 go_wp2_with fail
 generalize x1.setCell ⟨M, 2, none⟩ (.string told) = x2 at *
 clear j2 f2 m1 q2 q3 hRx z1 z2 z3
 go_loopw [26, 7] (fun a b wr => ∃ k : Nat, k ≤ 3 ∧ a = .int .i64 k ∧ b = .int .i64 (GK vs told ok late k) ∧ In T wr) (fun a _ _ => 3 - (intOf a).toNat)
 case atStart => exact ⟨0, by omega, rfl, rfl, hT1⟩
 obtain ⟨k, hk, rfl, rfl, hTr⟩ := hrel
 by_cases hlt : k < 3
 case neg =>
  obtain rfl : k = 3 := by omega
  have hc := PG vs told ok late 3
  have HNe : Hid (∃ N, N = GK vs told ok late 3) := ⟨_, rfl⟩
  obtain ⟨N, hN⟩ := HNe.out
  rw [← hN] at hc ⊢
  have HNe := zh hN
  clear hN
  have HLe := zh (HLd.out.below (hTb _ hTr))
  have HBe := zh (HBw.out.trans ((hTb _ hTr).mono (show B ≤ x2.heap.size by have := HBw.out.size; omega)))
  have hw := Bb (n := 2 * (N : Int)) (by omega)
  have y2 := s2 _ hTr
  have y3 := s3 _ hTr
  by_cases h2 : 2 ≤ N
  case pos =>
   have hq : decide (2 * (N : Int) ≤ 3) = false := by simp; omega
   have H2 := zh h2
   have Hy := zh (Hk.out _ hTr)
   clear h2 hc
   go_wp2_with fail
   go_ret
   exact ⟨_, rfl, HBe.out, HLe.out, fun h => absurd H2.out (by rw [HNe.out]; exact h), fun _ => ⟨_, _, rfl, Hy.out.1, Hy.out.2⟩⟩
  have hq : decide (2 * (N : Int) ≤ 3) = true := by simp; omega
  have H2 := zh h2
  clear h2 hc
  go_wp2_with fail
  go_ret
  exact ⟨_, rfl, HBe.out, HLe.out, fun _ => rfl, fun h => absurd (by rw [HNe.out]; exact h) H2.out⟩
 have Hn := zh (show GK vs told ok late (k + 1) = GK vs told ok late k + if (ok && (((sa vs k).toList == told.toList) && !DN late k)) = true then 1 else 0 from rfl)
 have hc := PG vs told ok late k
 have y2 := s2 _ hTr
 have y3 := s3 _ hTr
 have HCk := zh (HC2.out _ hTr k hlt)
 have hwn := Bb (n := (GK vs told ok late k : Int) + 1) (by omega)
 cases ok
 case false =>
  have Hr := zh (show GK vs told false late (k + 1) = GK vs told false late k by rw [Hn.out, Bool.false_and, if_neg (by decide)]; rfl)
  generalize GK vs told false late k = N at *
  clear Hn hc
  go_wp2_with fail
  go_roundw
  case rel => exact ⟨k + 1, by omega, by go_num, by rw [Hr.out], hTr⟩
  case measure => simp [intOf]; omega
 generalize hbb : (((sa vs k).toList == told.toList) && !DN late k) = bb at *
 rw [Bool.true_and] at Hn
 generalize GK vs told true late k = N at *
 clear hbb
 go_wp2_with fail
 refine HCk.out.mono ?_
 rintro e y ⟨rfl, hby⟩
 have hTy := hTn _ _ hTr hby
 clear hby HCk
 cases bb
 case false =>
  have Hr := zh (show GK vs told true late (k + 1) = N by rw [Hn.out, if_neg (by decide)]; rfl)
  clear Hn hc
  go_wp2_with fail
  go_roundw
  case rel => exact ⟨k + 1, by omega, by go_num, by rw [Hr.out], hTy⟩
  case measure => simp [intOf]; omega
 have Hr := zh (show GK vs told true late (k + 1) = N + 1 by rw [Hn.out, if_pos rfl])
 clear Hn hc
 go_wp2_with fail
 go_roundw
 case rel => exact ⟨k + 1, by omega, by go_num, by rw [Hr.out]; go_num, hTy⟩
 case measure => simp [intOf]; omega
end Go.Proofs.YtjdgpgfiomnjkaaGreatDoor
