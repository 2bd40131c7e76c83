
/- CluE: a row of replicas of the call's own; walk of cluster.Own. -/
import Derived.Test.YtgkbalhkjolnmaaGreatDoorK22
import Derived.Deep.AppendLies
import Derived.Test.YtgkbalhkjolnmaaGreatDoorK20
import Derived.Test.YtgkbalhkjolnmaaGreatDoorK19
import Derived.Deep.DeepCutAuto
namespace Go.Proofs.YtgkbalhkjolnmaaGreatDoor
open Go.RowKit
set_option linter.unusedVariables false
set_option linter.unusedSimpArgs false
theorem Tryz.infoRep : (Tryz.prog.info? 43).map (fun i => (i.zero, i.size, i.bytes)) = some (some (.agg #[.slice none 0 0, .slice none 0 0, .int .i64 0, .int .i64 0, .slice none 0 0, .slice none 0 0, .bool false]), 7, 120) := by kernel_rfl
def OwnC (S : Nat → Prop) (B : Nat) (w : World) (v : Value) (l : List Rep) : Prop :=
 ∃ vs : Nat → RV, (∀ b, S b → b < w.heap.size ∧ v.ownBlock ≠ some b) ∧ w.ownsRow B 43 7 v l.length (flat (fun i => repC (rep l i) (vs i)) l.length) ∧
  ∀ i, i < l.length → RepAt S w (rep l i) (vs i)
theorem OwnC.nil (S : Nat → Prop) (B : Nat) (w : World) (hS : ∀ b, S b → b < w.heap.size) : OwnC S B w (.slice none 0 0) [] :=
 ⟨fun _ => ⟨.nilFunc, .nilFunc, .nilFunc, .nilFunc⟩, fun b hb => ⟨hS b hb, by simp [Value.ownBlock]⟩, World.ownsRow_nil _ _ _ _, fun i hi => by simp at hi⟩
theorem OwnC.below {S : Nat → Prop} {B : Nat} {w w' : World} {v : Value} {l : List Rep} (h : OwnC S B w v l) (hb : Below w.heap.size w w') : OwnC S B w' v l := by
 obtain ⟨vs, h1, h2, h3⟩ := h
 exact ⟨vs, fun b hS => ⟨Nat.lt_of_lt_of_le (h1 b hS).1 hb.size, (h1 b hS).2⟩, own_below h2 hb, fun i hi => (h3 i hi).below hb⟩
theorem OwnC.upd {S T : Nat → Prop} {B : Nat} {w w' : World} {v : Value} {l : List Rep} (h : OwnC S B w v l) (hu : Upd T w w') (hS : ∀ b, S b → ¬ T b) (hv : ∀ g, v.ownBlock = some g → ¬ T g) : OwnC S B w' v l := by
 obtain ⟨vs, h1, h2, h3⟩ := h
 exact ⟨vs, fun b hb => ⟨Nat.lt_of_lt_of_le (h1 b hb).1 hu.size, (h1 b hb).2⟩, own_upd h2 hu hv, fun i hi => (h3 i hi).upd hu hS⟩
theorem OwnC.shape {S : Nat → Prop} {B : Nat} {w : World} {v : Value} {l : List Rep} (h : OwnC S B w v l) : ∃ a c, v = .slice a l.length c := let ⟨_, _, h2, _⟩ := h; own_shape h2
theorem OwnC.block {S : Nat → Prop} {B : Nat} {w : World} {v : Value} {l : List Rep} (h : OwnC S B w v l) {g : Nat} (hg : v.ownBlock = some g) : B ≤ g ∧ g < w.heap.size := let ⟨_, _, h2, _⟩ := h; h2.lt g hg
theorem OwnC.lt {S : Nat → Prop} {B : Nat} {w : World} {v : Value} {l : List Rep} (h : OwnC S B w v l) {b : Nat} (hb : S b) : b < w.heap.size := let ⟨_, h1, _, _⟩ := h; (h1 b hb).1
theorem OwnC.reps {S S' : Nat → Prop} {B : Nat} {w : World} {v : Value} {l : List Rep} (h : OwnC S B w v l) (hl : l.length * 120 ≤ 140737488351232) (hS : ∀ b, S b → S' b) (hB : ∀ b, v.ownBlock = some b → S' b) : RepsV S' w v l := by
 obtain ⟨vs, h1, h2, h3⟩ := h
 refine ⟨vs, own_sl h2 hB hl (fun i hi j u hu => ?_), fun i hi => (h3 i hi).weaken hS⟩
 exact flat_get (cs := fun i => repC (rep l i) (vs i)) (fun _ _ => rfl) i hi j u hu
theorem OwnC.any {S : Nat → Prop} {B : Nat} {w : World} {v : Value} {l : List Rep} (h : OwnC S B w v l) (hl : l.length * 120 ≤ 140737488351232) : RepsV (fun _ => True) w v l := h.reps hl (fun _ _ => trivial) (fun _ _ => trivial)
theorem OwnC.weaken {S S' : Nat → Prop} {B B' : Nat} {w : World} {v : Value} {l : List Rep} (h : OwnC S B w v l) (hS : ∀ b, S b → S' b) (hS' : ∀ b, S' b → b < w.heap.size ∧ v.ownBlock ≠ some b) (hB : B' ≤ B) : OwnC S' B' w v l := by
 obtain ⟨vs, h1, h2, h3⟩ := h
 exact ⟨vs, hS', own_mono h2 hB, fun i hi => (h3 i hi).weaken hS⟩
theorem OwnC.own {S : Nat → Prop} {B : Nat} {w : World} {v : Value} {l : List Rep} (h : OwnC S B w v l) {b : Nat} (hb : S b) : v.ownBlock ≠ some b := let ⟨_, h1, _, _⟩ := h; (h1 b hb).2
theorem OwnC.list {S : Nat → Prop} {B : Nat} {w : World} {v : Value} {l l' : List Rep} (e : l' = l) (h : OwnC S B w v l') : OwnC S B w v l := e ▸ h
theorem OwnC.free {S : Nat → Prop} {B : Nat} {w : World} {l : List Rep} {g o n c : Nat} (h : OwnC S B w (.slice (some ⟨g, o, none⟩) n c) l) (j : Nat) : w.frozen? ⟨g, j, none⟩ = false := by
 obtain ⟨vs, h1, ⟨_, h2⟩, h3⟩ := h
 rcases h2 with ⟨e, _⟩ | ⟨g', cap, cur, e, _, hh, _⟩
 ·cases e
 ·cases e; exact block_free hh
theorem rep_app_lt {l m : List Rep} {i : Nat} (h : i < l.length) : rep (l ++ m) i = rep l i := by
 unfold rep at_; simp only [List.getD_eq_getElem?_getD, List.getElem?_append_left h]
theorem rep_app_ge {l m : List Rep} {i : Nat} : rep (l ++ m) (l.length + i) = rep m i := by
 unfold rep at_; simp only [List.getD_eq_getElem?_getD]
 rw [List.getElem?_append_right (by omega), show l.length + i - l.length = i by omega]
theorem one_repC {S : Nat → Prop} {w : World} {r : Rep} {x : RV} (h : RepAt S w r x) : ∀ u ∈ repC r x, u.oneCell' = true := by
 obtain ⟨y, rfl⟩ := h.ra
 intro u hu
 simp only [repC, RA.rv, List.mem_cons, List.not_mem_nil, or_false] at hu
 rcases hu with rfl | rfl | rfl | rfl | rfl | rfl | rfl <;> rfl
theorem reps_news {S : Nat → Prop} {w : World} {a : Option Addr} {n cap : Nat} {l : List Rep} {lvs : Nat → RV} (h : Sl S w (.slice a n cap) 7 120 l.length (fun i => repC (rep l i) (lvs i))) (hn : 0 < l.length) :
  ∃ ad, a = some ad ∧ ∀ j u, (flat (fun i => repC (rep l i) (lvs i)) l.length)[j]? = some u → w.cell? (ad.add j) = some u := by
 obtain ⟨a', cap', hv, h1, h2, h3, h4⟩ := h
 cases hv
 obtain ⟨b, off, rfl, hb, hc⟩ := h4 hn
 refine ⟨_, rfl, fun j u hu => ?_⟩
 have hj : j < l.length * 7 := by
  rcases Nat.lt_or_ge j (l.length * 7) with h | h
  ·exact h
  ·rw [List.getElem?_eq_none (by rw [flat_length (sz := 7) fun _ _ => rfl]; exact h)] at hu; cases hu
 have hi' : j / 7 < l.length := by omega
 have hm : j % 7 < (repC (rep l (j / 7)) (lvs (j / 7))).length := by show j % 7 < 7; omega
 have e := flat_get (cs := fun i => repC (rep l i) (lvs i)) (sz := 7) (n := l.length) (fun _ _ => rfl) (j / 7) hi' (j % 7) _ (List.getElem?_eq_getElem hm)
 rw [show j / 7 * 7 + j % 7 = j by omega, hu] at e
 have := hc (j / 7) hi' (j % 7) u (by rw [List.getElem?_eq_getElem hm]; exact e.symm)
 rw [show (⟨b, off, none⟩ : Addr).add j = ⟨b, off + j, none⟩ by unfold Addr.add; split <;> simp_all]
 rw [show off + j = off + j / 7 * 7 + j % 7 by omega]; exact this
theorem append_reps {B : Nat} {w : World} {v mv : Value} {l more : List Rep} {S S1 : Nat → Prop} (ty : TypeId) (hG : OwnC S1 B w v l) (h : RepsV S w mv more) (hS : ∀ b, S b → b < w.heap.size ∧ v.ownBlock ≠ some b)
  (hl : (l.length + more.length) * 120 ≤ 140737488351232) (hB : B ≤ w.heap.size) :
  ∃ v' x, (Builtin.append_ #[22, 22] ty #[v, mv]).run Tryz.prog w = .ok v' x ∧ OwnC (fun b => S1 b ∨ S b) B x v' (l ++ more) ∧ Upd (fun b => v.ownBlock = some b) w x := by
 obtain ⟨i0, hi, hz0, hz1, hz2⟩ := info_parts Tryz.infoRep
 have hG' := hG
 obtain ⟨lvs1, h1, hown, h3⟩ := hG
 obtain ⟨lvs, hsl, h5⟩ := h
 have hsl' := hsl
 obtain ⟨a, cap, rfl, hc1, hc2, hc3, _⟩ := hsl'
 by_cases h0 : more.length = 0
 ·obtain rfl : more = [] := List.length_eq_zero_iff.1 h0
  obtain ⟨base, sc, hv, hle⟩ : ∃ base sc, v = .slice base l.length sc ∧ l.length ≤ sc := by
   rcases hown.2 with ⟨rfl, hn⟩ | ⟨g, c, cur, rfl, _, _, hn, _⟩
   ·exact ⟨none, 0, by rw [hn], by omega⟩
   ·exact ⟨_, _, rfl, hn⟩
  subst hv
  refine ⟨_, w, run_append_nothing _ 22 22 ty 43 i0 Tryz.underlying22 hi base l.length sc hle _
   ⟨.inl ⟨_, Tryz.underlying22⟩, fun w' => by simp [Builtin.lenOf], by cases a <;> simp [Builtin.firstCells] <;> rfl, by cases a <;> simp [Builtin.firstCells] <;> rfl, by simp, by simp⟩, ?_, Upd.refl _ _⟩
  rw [List.append_nil]; exact hG'.weaken (fun _ h => .inl h) (fun b hb => by rcases hb with hb | hb; exact h1 b hb; exact hS b hb) (Nat.le_refl _)
 ·obtain ⟨ad, rfl, hnews⟩ := reps_news hsl (by omega)
  obtain ⟨g, c, x, hr, ho, hg, hor, hlt⟩ := run_append_lies (P := Tryz.prog) w 22 ty B 43 i0 _ 7 120 Tryz.underlying22 hi hz0 hz1 hz2 rfl (by omega) v l.length _ hown ad more.length cap
   (flat (fun i => repC (rep more i) (lvs i)) more.length) (flat_length fun _ _ => rfl) hnews (one_flat fun i hi => one_repC (h5 i hi)) (by omega) (by unfold maxLen; omega) (by omega) hB _ rfl
  have hu : Upd (fun b => v.ownBlock = some b) w x := Upd.grown (Upd.refl _ _) hg (fun k hk _ => hk)
  refine ⟨_, x, hr, ⟨fun i => if i < l.length then lvs1 i else lvs (i - l.length), fun b hb => ?_, ?_, fun i hi => ?_⟩, hu⟩
  ·have hb' : b < w.heap.size ∧ v.ownBlock ≠ some b := by rcases hb with hb | hb; exact h1 b hb; exact hS b hb
   refine ⟨Nat.lt_of_lt_of_le hb'.1 hu.size, fun e => ?_⟩
   have e' : g = b := by simpa [Value.ownBlock] using e
   rcases hor with h | h
   ·exact hb'.2 (by rw [h, e'])
   ·omega
  ·rw [List.length_append, flat_add]
   have e1 : flat (fun i => repC (rep (l ++ more) i) (if i < l.length then lvs1 i else lvs (i - l.length))) l.length = flat (fun i => repC (rep l i) (lvs1 i)) l.length :=
    flat_congr fun i hi => by rw [rep_app_lt hi, if_pos hi]
   have e2 : flat (fun j => repC (rep (l ++ more) (l.length + j)) (if l.length + j < l.length then lvs1 (l.length + j) else lvs (l.length + j - l.length))) more.length = flat (fun i => repC (rep more i) (lvs i)) more.length :=
    flat_congr fun i hi => by rw [rep_app_ge, if_neg (by omega), show l.length + i - l.length = i by omega]
   rw [e1, e2]; exact ho
  ·rw [List.length_append] at hi
   by_cases hlt : i < l.length
   ·simp only [rep_app_lt hlt, if_pos hlt]
    exact ((h3 i hlt).upd hu (fun b hb e => (h1 b hb).2 e)).weaken fun _ h => .inl h
   ·obtain ⟨j, rfl⟩ : ∃ j, i = l.length + j := ⟨i - l.length, by omega⟩
    simp only [rep_app_ge, if_neg hlt, show l.length + j - l.length = j by omega]
    exact ((h5 j (by omega)).upd hu (fun b hb e => (hS b hb).2 e)).weaken fun _ h => .inr h
theorem rep_set {l : List Rep} {i j : Nat} {r : Rep} (hj : j < l.length) : rep (l.set i r) j = if j = i then r else rep l j := by
 unfold rep at_
 simp only [List.getD_eq_getElem?_getD, List.getElem?_set]
 by_cases e : i = j
 ·subst e; simp [hj]
 ·rw [if_neg e, if_neg (fun h => e h.symm)]
theorem OwnC.set {S S2 : Nat → Prop} {B : Nat} {w : World} {l : List Rep} {r : Rep} {x : RV} {g n c i : Nat} (h : OwnC S B w (.slice (some ⟨g, 0, none⟩) n c) l) (hi : i < l.length) (hr : RepAt S2 w r x)
  (h2 : ∀ b, S2 b → b < w.heap.size ∧ b ≠ g) :
  OwnC (fun b => S b ∨ S2 b) B (w.setCells g (i * 7) (repC r x)) (.slice (some ⟨g, 0, none⟩) n c) (l.set i r) ∧ Upd (fun b => b = g) w (w.setCells g (i * 7) (repC r x)) := by
 have hu := setCells_frame g (repC r x) (i * 7) w
 refine ⟨?_, hu⟩
 obtain ⟨vs, h1, ⟨hxl, hown⟩, h3⟩ := h
 rcases hown with ⟨e, _⟩ | ⟨g', cap, cur, e, hBg, hg, hnc, hcm, hcs, hxs⟩
 ·cases e
 cases e
 have hcl : cur.toList.length = c * 7 := by simp [hcs]
 have hw := setCells_heap g 43 (repC r x) (i * 7) cur w hg (by rw [hcs]; show i * 7 + 7 ≤ _; omega)
 refine ⟨fun j => if j = i then x else vs j, fun b hb => ?_, ⟨?_, .inr ⟨g, c, _, by rw [List.length_set], hBg, hw, by rw [List.length_set]; exact hnc, hcm, ?_, ?_⟩⟩, fun j hj => ?_⟩
 ·rcases hb with hb | hb
  ·exact ⟨Nat.lt_of_lt_of_le (h1 b hb).1 hu.size, (h1 b hb).2⟩
  ·exact ⟨Nat.lt_of_lt_of_le (h2 b hb).1 hu.size, fun e => (h2 b hb).2 (by simpa [Value.ownBlock, eq_comm] using e)⟩
 ·exact flat_length fun _ _ => rfl
 ·simp only [List.size_toArray, List.length_append, List.length_take, List.length_drop, hcl]; show min (i * 7) (c * 7) + 7 + (c * 7 - (i * 7 + 7)) = c * 7; omega
 ·rw [List.length_set]
  have e1 : flat (fun j => repC (rep (l.set i r) j) (if j = i then x else vs j)) l.length = flat (fun j => if j = i then repC r x else repC (rep l j) (vs j)) l.length :=
   flat_congr fun j hj => by
    rw [rep_set hj]
    by_cases e : j = i
    ·rw [if_pos e, if_pos e, if_pos e]
    ·rw [if_neg e, if_neg e, if_neg e]
  rw [e1, ← flat_put (cs := fun j => repC (rep l j) (vs j)) (ys := repC r x) (sz := 7) (n := l.length) (i := i) (fun _ _ => rfl) hi, ← hxs]
  simp only [List.toList_toArray]
  exact take_put (ys := repC r x) (A := cur.toList) (a := i * 7) (m := 7) (n := l.length * 7) rfl (by omega) (by rw [hcl]; omega)
 ·rw [List.length_set] at hj
  rw [rep_set hj]
  by_cases e : j = i
  ·subst e
   simp only [if_true]
   exact (RepIs.upd hr hu (fun b hb e => (h2 b hb).2 e)).weaken fun _ h => .inr h
  ·simp only [if_neg e]
   exact (RepIs.upd (h3 j hj) hu (fun b hb e => (h1 b hb).2 (by subst e; rfl))).weaken fun _ h => .inl h
theorem reps_new {S : Nat → Prop} (w : World) (r : Rep) (x : RV) (t : TypeId) (N : Nat) (hN : N = w.heap.size) (h : RepAt S w r x) :
  RepsV (fun b => S b ∨ b = N) (w.alloc (.cells (repC r x).toArray t)) (.slice (some ⟨N, 0, none⟩) 1 1) [r] := by
 subst hN
 refine ⟨fun _ => x, ⟨some ⟨w.heap.size, 0, none⟩, 1, rfl, Nat.le_refl _, by omega, by simp, fun _ => ⟨w.heap.size, 0, rfl, .inr rfl, fun i hi j u hu => ?_⟩⟩, fun i hi => ?_⟩
 ·obtain rfl : i = 0 := by simp at hi; omega
  refine block_cell (heap_alloc_new w _) ?_
  have hu' : (repC r x)[j]? = some u := hu
  simpa using hu'
 ·obtain rfl : i = 0 := by simp at hi; omega
  exact (RepIs.below h ((Below.refl _ _).alloc (Nat.le_refl _) _)).weaken fun _ h => .inl h
theorem OwnC.shape3 {S : Nat → Prop} {B : Nat} {w : World} {v : Value} {l : List Rep} (h : OwnC S B w v l) : ∃ a n c, v = .slice a n c := let ⟨a, c, e⟩ := h.shape; ⟨a, _, c, e⟩
def OwnF (B : Nat) (w : World) (v : Value) (l : List Rep) : Prop := ∃ F : Nat → Prop, OwnC F B w v l ∧ ∀ b, F b → B ≤ b
theorem take_next_rep {l : List Rep} {k : Nat} (h : k < l.length) : l.take (k + 1) = l.take k ++ [rep l k] := by
 rw [List.take_succ_eq_append_getElem h, rep_lt h]
set_option maxRecDepth 100000 in
set_option maxHeartbeats 4000000 in
theorem cluOwn_any (l : List Rep) (v : Value) (S : Nat → Prop) (w : World) (h : RepsV S w v l) :
  Calls Tryz.prog 49 #[.agg #[v]] w fun e w' => ∃ v', e = .returned (.agg #[v']) ∧ OwnF w.heap.size w' v' l ∧ Below w.heap.size w w' := by
 obtain ⟨a, n, cap, fr, HN, rfl, h1, h2, h3, h4, h5⟩ := h.open
 clear h
 have HL := Lib.hid (show l.take n = l by rw [HN.out]; exact List.take_length)
 have HT := Lib.hid (fun k (hk : k < n) => take_next_rep (l := l) (k := k) (by rw [← HN.out]; exact hk))
 have HTl := Lib.hid (fun k => show (l.take k).length ≤ k by rw [List.length_take]; omega)
 obtain ⟨w3, hw3⟩ : ∃ w3, w3 = ((w.alloc (.cells #[.slice a n cap] 24)).alloc (.cells #[.slice none 0 0] 24)).alloc (.cells #[.slice none 0 0] 24) := ⟨_, rfl⟩
 have hs3 : w3.heap.size = w.heap.size + 3 := by rw [hw3]; simp
 have hb3 : Below w.heap.size w w3 := by rw [hw3]; exact foldl_below [_, _, _] w
 have hcl3 := cls_of w w3 (w.heap.size + 2) (by omega) (by omega) hb3
 have g0 : w3.heap[w.heap.size]? = some (.cells #[.slice a n cap] 24 (0, 0)) := by rw [hw3]; exact foldl_get [_, _, _] w 0 _ rfl
 have g1 : w3.heap[w.heap.size + 1]? = some (.cells #[.slice none 0 0] 24 (0, 0)) := by rw [hw3]; exact foldl_get [_, _, _] w 1 _ rfl
 have g2 : w3.heap[w.heap.size + 2]? = some (.cells #[.slice none 0 0] 24 (0, 0)) := by rw [hw3]; exact foldl_get [_, _, _] w 2 _ rfl
 obtain ⟨R, hR⟩ : ∃ R : World → Prop, R = fun x => Below (w.heap.size + 2) w3 x := ⟨_, rfl⟩
 rw [← hR] at hcl3
 have hRb := hcl3.below
 have hRn := hcl3.next
 have hR3 : In R w3 := by rw [hR]; exact Below.refl _ _
 have HRu := Lib.hid (fun x y (T : Nat → Prop) (hx : In R x) (hu : Upd T x y) (hT : ∀ b, T b → w.heap.size + 2 ≤ b) => show In R y by rw [hR] at hx ⊢; exact Below.trans (hx : Below _ _ _) (hu.below (by have := Below.size (hx : Below _ _ _); omega) hT))
 have HRs := Lib.hid (fun x (hx : In R x) => show w.heap.size + 3 ≤ x.heap.size by rw [hR] at hx; have := Below.size (hx : Below _ _ _); omega)
 have c0 : ∀ x, In R x → x.cell? ⟨w.heap.size, 0, none⟩ = some (.slice a n cap) := fun x hx => by rw [hR] at hx; exact block_cell (j := 0) ((Below.block (hx : Below _ _ _) _ (by omega)).trans g0) rfl
 have HZ := Lib.hid (fun x (hx : In R x) => show x.heap[w.heap.size + 1]? = some (.cells #[.slice none 0 0] 24 (0, 0)) by rw [hR] at hx; exact (Below.block (hx : Below _ _ _) _ (by omega)).trans g1)
 have cc := c0 _ hR3
 have HI0 := Lib.hid (show ∃ va vn vc, OwnF (w.heap.size + 3) w3 (.slice va vn vc) (l.take 0) ∧ w3.heap[w.heap.size + 2]? = some (.cells #[.slice va vn vc] 24 (0, 0)) from ⟨_, _, _, ⟨fun _ => False, OwnC.nil _ _ _ (fun _ h => h.elim), fun _ h => h.elim⟩, g2⟩)
 clear hR hcl3 g0 g1 g2 hs3 hb3
 have Hw3 := Lib.hid hw3
 rw [hw3] at cc
 clear hw3
 go_enter Tryz.func49, Tryz.ntmps49
 go_wp2_with fail
 rw [← Hw3.out]
 clear cc
 go_loopw [9] (fun i wr => ∃ k : Nat, k ≤ n ∧ i = .int .i64 k ∧ Hid (∃ va vn vc, OwnF (w.heap.size + 3) wr (.slice va vn vc) (l.take k) ∧ wr.heap[w.heap.size + 2]? = some (.cells #[.slice va vn vc] 24 (0, 0))) ∧ In R wr) (fun i _ => n - (intOf i).toNat)
 case atStart => exact ⟨0, by omega, rfl, HI0.out, hR3⟩
 case round =>
  obtain ⟨k, hk, rfl, HI, hRw⟩ := hrel
  clear hR3 HI0
  obtain ⟨va, vn, vc, ⟨F, hO, hF⟩, hJ⟩ := HI.out
  have hsw := HRs.out _ hRw
  by_cases hlt : k < n
  ·obtain ⟨b, off, rfl, hb, k0, k1, k2, k3, k4, k5, k6⟩ := h4 (by omega)
   have x0 := k0 k wr hlt (hRb _ hRw)
   have x1 := k1 k wr hlt (hRb _ hRw)
   have x2 := k2 k wr hlt (hRb _ hRw)
   have x3 := k3 k wr hlt (hRb _ hRw)
   have x4 := k4 k wr hlt (hRb _ hRw)
   have x5 := k5 k wr hlt (hRb _ hRw)
   have x6 := k6 k wr hlt (hRb _ hRw)
   obtain ⟨Q, hQ, hQ1, hy⟩ := cls_box wr #[.slice (fr k).sa (rep l k).store.length (fr k).sc, .slice (fr k).ra (rep l k).refs.length (fr k).rc, .int .i64 (rep l k).gen, .int .i64 (rep l k).phase, .slice (fr k).oa (rep l k).pend.objects.length (fr k).oc, .slice (fr k).ua (rep l k).pend.updates.length (fr k).uc, .bool (rep l k).pend.force] 43
   have hQb := hQ.below
   have hQn := hQ.next
   have hQR : ∀ x, In Q x → In R x := fun x hx => hRn _ _ hRw (hQb x hx)
   have HS : ∀ x, In Q x → (fun x : World => x.cell? ⟨wr.heap.size, 0, none⟩ = some (.slice (fr k).sa (rep l k).store.length (fr k).sc) ∧ x.cell? ⟨wr.heap.size, 1, none⟩ = some (.slice (fr k).ra (rep l k).refs.length (fr k).rc) ∧ x.cell? ⟨wr.heap.size, 2, none⟩ = some (.int .i64 (rep l k).gen) ∧ x.cell? ⟨wr.heap.size, 3, none⟩ = some (.int .i64 (rep l k).phase) ∧ x.cell? ⟨wr.heap.size, 4, none⟩ = some (.slice (fr k).oa (rep l k).pend.objects.length (fr k).oc) ∧ x.cell? ⟨wr.heap.size, 5, none⟩ = some (.slice (fr k).ua (rep l k).pend.updates.length (fr k).uc) ∧ x.cell? ⟨wr.heap.size, 6, none⟩ = some (.bool (rep l k).pend.force)) x := fun x hx => ⟨hy 0 _ rfl x hx, hy 1 _ rfl x hx, hy 2 _ rfl x hx, hy 3 _ rfl x hx, hy 4 _ rfl x hx, hy 5 _ rfl x hx, hy 6 _ rfl x hx⟩
   have HO := Lib.hid (fun x (hx : In Q x) => hO.below (hQb _ hx))
   have HJ := Lib.hid (fun x (hx : In Q x) => ((hQb _ hx).block _ (show w.heap.size + 2 < wr.heap.size by omega)).trans hJ)
   have HC := Lib.hid (fun x (hx : In Q x) => repOwn_any (rep l k) _ _ _ _ _ x ((h5 k hlt).below (hRb _ (hQR _ hx))))
   simp only [repV] at HC
   have hi1 : (0 : Int) ≤ (k : Int) := by omega
   have hi2 : (k : Int) < (n : Int) := by omega
   have Hob := Lib.hid (fun g (hg : (Value.slice va vn vc).ownBlock = some g) => hO.block hg)
   have HF := Lib.hid hF
   have hlk := HTl.out k
   have HTk := Lib.hid (HT.out k hlt)
   clear hy h4 h5 hO hJ hF HT HL c0 k0 k1 k2 k3 k4 k5 k6
   obtain ⟨wo, rfl⟩ : ∃ wo : World, wo = wr := ⟨_, rfl⟩
   go_wp2_with fail
   refine wp_region_held (S := (fun x : World => x.cell? ⟨wo.heap.size, 0, none⟩ = some (.slice (fr k).sa (rep l k).store.length (fr k).sc) ∧ x.cell? ⟨wo.heap.size, 1, none⟩ = some (.slice (fr k).ra (rep l k).refs.length (fr k).rc) ∧ x.cell? ⟨wo.heap.size, 2, none⟩ = some (.int .i64 (rep l k).gen) ∧ x.cell? ⟨wo.heap.size, 3, none⟩ = some (.int .i64 (rep l k).phase) ∧ x.cell? ⟨wo.heap.size, 4, none⟩ = some (.slice (fr k).oa (rep l k).pend.objects.length (fr k).oc) ∧ x.cell? ⟨wo.heap.size, 5, none⟩ = some (.slice (fr k).ua (rep l k).pend.updates.length (fr k).uc) ∧ x.cell? ⟨wo.heap.size, 6, none⟩ = some (.bool (rep l k).pend.force))) (by kernel_rfl) ?_
   change wpAnyH _ _ _ _ _ _ _ _ (World.drew _)
   have hC0 := hQ.drew _ hQ1
   generalize (wo.alloc _).drew = x0 at hC0 ⊢
   clear hQ1
   have hS0 := HS _ hC0
   refine wpAnyH_take (i := 0) (v := .pointer (some ⟨w.heap.size + 2, 0, none⟩)) rfl (by kernel_rfl) (by kernel_rfl) (by kernel_rfl) (fun _ _ _ h => h) (Or.inl ⟨by rfl, fun w hSw => ?_⟩) hS0 ?_
   ·go_simp
   simp only [Act.put, List.setIfInBounds_toArray, List.set_cons_zero, List.set_cons_succ]
   refine wpAnyH_take (i := 2) (v := .agg #[.slice (fr k).sa (rep l k).store.length (fr k).sc, .slice (fr k).ra (rep l k).refs.length (fr k).rc, .int .i64 (rep l k).gen, .int .i64 (rep l k).phase, .slice (fr k).oa (rep l k).pend.objects.length (fr k).oc, .slice (fr k).ua (rep l k).pend.updates.length (fr k).uc, .bool (rep l k).pend.force]) rfl (by kernel_rfl) (by kernel_rfl) (by kernel_rfl) (fun _ _ _ h => h) (Or.inl ⟨by rfl, fun w hSw => ?_⟩) hS0 ?_
   ·obtain ⟨y0, y1, y2, y3, y4, y5, y6⟩ := hSw; go_simp
   simp only [Act.put, List.setIfInBounds_toArray, List.set_cons_zero, List.set_cons_succ]
   refine wpAnyH_all (rs := [1, 3]) (by kernel_rfl) (by simp) (fun j hj => ?_)
   rcases List.mem_cons.1 hj with rfl | hj
   ·skip
    refine Or.inl ?_
    have cJw := block_cell (j := 0) (HJ.out _ hC0) rfl
    go_simp
    clear cJw
    refine wpAnyH_all (rs := [3]) (by kernel_rfl) (by simp) (fun j hj => ?_)
    obtain rfl : j = 3 := by simpa using hj
    refine Or.inl ?_
    go_wp2_with fail
    refine (HC.out _ hC0).mono ?_
    rintro e x1 ⟨sv1, rv1, ov1, uv1, rfl, hv, hb1⟩
    have hC1 := hQn _ _ hC0 hb1
    have hs0 := (hQb _ hC0).size
    have hs1 := hb1.size
    have Hv := Lib.hid hv
    obtain ⟨sa1, sc1, rfl⟩ := hv.store.vshape
    obtain ⟨⟨ra1, rc1⟩, rfl⟩ := hv.refs.shape
    obtain ⟨oa1, oc1, rfl⟩ := hv.objs.vshape
    obtain ⟨⟨ua1, uc1⟩, rfl⟩ := hv.upds.shape
    have hS1 := HS _ hC1
    clear hv hb1
    simp only [repV]
    go_simp
    refine wpAnyH_all (rs := [4]) (by kernel_rfl) (by simp) (fun j hj => ?_)
    obtain rfl : j = 4 := by simpa using hj
    refine Or.inl ?_
    have hC2 := hQ.alloc _ (.cells #[.slice sa1 (rep l k).store.length sc1, .slice ra1 (rep l k).refs.length rc1, .int .i64 (rep l k).gen, .int .i64 (rep l k).phase, .slice oa1 (rep l k).pend.objects.length oc1, .slice ua1 (rep l k).pend.updates.length uc1, .bool (rep l k).pend.force] 43) hC1
    have hS2 := HS _ hC2
    have hrow := Lib.hid (reps_new x1 (rep l k) ⟨.slice sa1 (rep l k).store.length sc1, .slice ra1 (rep l k).refs.length rc1, .slice oa1 (rep l k).pend.objects.length oc1, .slice ua1 (rep l k).pend.updates.length uc1⟩ 43 x1.heap.size rfl (RepIs.lt Hv.out))
    go_simp
    refine wpAnyH_all (rs := [5]) (by kernel_rfl) (by simp) (fun j hj => ?_)
    obtain rfl : j = 5 := by simpa using hj
    refine Or.inl ?_
    obtain ⟨v4, x4, hr4, hO4, hu4⟩ := append_reps 22 (HO.out _ hC2) hrow.out (fun b hb => ⟨by rcases hb with hb | hb; have := hb.2; simp; omega; simp; omega, fun e => by have := (Hob.out _ e).2; rcases hb with hb | hb; have := hb.1; omega; omega⟩) (by simp; omega) (by simp; omega)
    obtain ⟨a4, n4, c4, rfl⟩ := hO4.shape3
    refine wp_append_run (.tmp 14) (.tmp 17) 22 (by rfl) _ _ _ (by rfl) (by rfl) hr4 ?_
    simp only [Act.put, List.setIfInBounds_toArray, List.set_cons_zero, List.set_cons_succ]
    have hjo : ∀ b, (Value.slice va vn vc).ownBlock = some b → w.heap.size + 3 ≤ b ∧ b < wo.heap.size := fun b hb => Hob.out b hb
    have hS4 : (fun x : World => x.cell? ⟨wo.heap.size, 0, none⟩ = some (.slice (fr k).sa (rep l k).store.length (fr k).sc) ∧ x.cell? ⟨wo.heap.size, 1, none⟩ = some (.slice (fr k).ra (rep l k).refs.length (fr k).rc) ∧ x.cell? ⟨wo.heap.size, 2, none⟩ = some (.int .i64 (rep l k).gen) ∧ x.cell? ⟨wo.heap.size, 3, none⟩ = some (.int .i64 (rep l k).phase) ∧ x.cell? ⟨wo.heap.size, 4, none⟩ = some (.slice (fr k).oa (rep l k).pend.objects.length (fr k).oc) ∧ x.cell? ⟨wo.heap.size, 5, none⟩ = some (.slice (fr k).ua (rep l k).pend.updates.length (fr k).uc) ∧ x.cell? ⟨wo.heap.size, 6, none⟩ = some (.bool (rep l k).pend.force)) x4 := ⟨hu4.cell hS2.1 (fun e => absurd (hjo _ e).2 (Nat.lt_irrefl _)), hu4.cell hS2.2.1 (fun e => absurd (hjo _ e).2 (Nat.lt_irrefl _)), hu4.cell hS2.2.2.1 (fun e => absurd (hjo _ e).2 (Nat.lt_irrefl _)), hu4.cell hS2.2.2.2.1 (fun e => absurd (hjo _ e).2 (Nat.lt_irrefl _)), hu4.cell hS2.2.2.2.2.1 (fun e => absurd (hjo _ e).2 (Nat.lt_irrefl _)), hu4.cell hS2.2.2.2.2.2.1 (fun e => absurd (hjo _ e).2 (Nat.lt_irrefl _)), hu4.cell hS2.2.2.2.2.2.2 (fun e => absurd (hjo _ e).2 (Nat.lt_irrefl _))⟩
    have hJ4 := hu4.blk (HJ.out _ hC2) (fun e => by have := (hjo _ e).1; omega)
    have hR4 := HRu.out _ _ _ (hQR _ hC2) hu4 (fun b hb => by have := (hjo _ hb).1; omega)
    have HO4 := Lib.hid hO4
    refine ⟨hS4, ?_⟩
    clear hO4 hr4 hu4 hjo hrow
    refine wpAnyH_all (rs := [6]) (by kernel_rfl) (by simp) (fun j hj => ?_)
    obtain rfl : j = 6 := by simpa using hj
    refine Or.inl ?_
    go_simp
    first | refine ⟨hS4, ?_⟩ | skip
    refine wpAnyH_all (rs := [7]) (by kernel_rfl) (by simp) (fun j hj => ?_)
    obtain rfl : j = 7 := by simpa using hj
    refine Or.inl ?_
    have cJ := block_cell (j := 0) hJ4 rfl
    have fJ := block_free (j := 0) hJ4
    go_wp2_with fail
    first | refine ⟨hS4, by kernel_rfl, ?_⟩ | refine ⟨by kernel_rfl, ?_⟩
    have hu5 : Upd (fun b => b = w.heap.size + 2) x4 (x4.setCell ⟨w.heap.size + 2, 0, none⟩ (.slice a4 n4 c4)) := (Upd.refl (fun b => b = w.heap.size + 2) x4).setCell (p := ⟨w.heap.size + 2, 0, none⟩) (fun _ => rfl) _
    have hJ5 : (x4.setCell ⟨w.heap.size + 2, 0, none⟩ (.slice a4 n4 c4)).heap[w.heap.size + 2]? = some (.cells #[.slice a4 n4 c4] 24 (0, 0)) := block_setCell (j := 0) hJ4 (.slice a4 n4 c4)
    have hR5 := HRu.out _ _ _ hR4 hu5 (fun b hb => by omega)
    have hge : ∀ b, (F b ∨ ((x0.heap.size ≤ b ∧ b < x1.heap.size) ∨ b = x1.heap.size)) → w.heap.size + 3 ≤ b := fun b hb => by rcases hb with hb | hb | hb; exact HF.out b hb; omega; omega
    have hO5 : OwnF (w.heap.size + 3) _ (.slice a4 n4 c4) (l.take (k + 1)) := ⟨_, OwnC.list HTk.out.symm (HO4.out.upd hu5 (fun b hb e => by have := hge b hb; omega) (fun g hg e => by have := (HO4.out.block hg).1; omega)), hge⟩
    generalize x4.setCell ⟨w.heap.size + 2, 0, none⟩ (.slice a4 n4 c4) = x5 at *
    have HI5 := Lib.hid (show ∃ va vn vc, OwnF (w.heap.size + 3) x5 (.slice va vn vc) (l.take (k + 1)) ∧ x5.heap[w.heap.size + 2]? = some (.cells #[.slice va vn vc] 24 (0, 0)) from ⟨_, _, _, hO5, hJ5⟩)
    clear hO5 hJ5 hge hu5 HO4 cJ fJ hS4 hJ4 hS0 hS1 hS2 HS HO HJ HC Hv HI
    go_wp2_with fail
    go_roundw
    case rel => exact ⟨k + 1, by omega, by go_num, HI5.out, hR5⟩
    case measure => simp [intOf]; omega
   ·skip
    obtain rfl : j = 3 := by simpa using hj
    refine Or.inl ?_
    go_wp2_with fail
    refine (HC.out _ hC0).mono ?_
    rintro e x1 ⟨sv1, rv1, ov1, uv1, rfl, hv, hb1⟩
    have hC1 := hQn _ _ hC0 hb1
    have hs0 := (hQb _ hC0).size
    have hs1 := hb1.size
    have Hv := Lib.hid hv
    obtain ⟨sa1, sc1, rfl⟩ := hv.store.vshape
    obtain ⟨⟨ra1, rc1⟩, rfl⟩ := hv.refs.shape
    obtain ⟨oa1, oc1, rfl⟩ := hv.objs.vshape
    obtain ⟨⟨ua1, uc1⟩, rfl⟩ := hv.upds.shape
    have hS1 := HS _ hC1
    clear hv hb1
    simp only [repV]
    go_simp
    refine wpAnyH_all (rs := [1, 4]) (by kernel_rfl) (by simp) (fun j hj => ?_)
    rcases List.mem_cons.1 hj with rfl | hj
    ·skip
     refine Or.inl ?_
     have cJw := block_cell (j := 0) (HJ.out _ hC1) rfl
     go_simp
     clear cJw
     refine wpAnyH_all (rs := [4]) (by kernel_rfl) (by simp) (fun j hj => ?_)
     obtain rfl : j = 4 := by simpa using hj
     refine Or.inl ?_
     have hC2 := hQ.alloc _ (.cells #[.slice sa1 (rep l k).store.length sc1, .slice ra1 (rep l k).refs.length rc1, .int .i64 (rep l k).gen, .int .i64 (rep l k).phase, .slice oa1 (rep l k).pend.objects.length oc1, .slice ua1 (rep l k).pend.updates.length uc1, .bool (rep l k).pend.force] 43) hC1
     have hS2 := HS _ hC2
     have hrow := Lib.hid (reps_new x1 (rep l k) ⟨.slice sa1 (rep l k).store.length sc1, .slice ra1 (rep l k).refs.length rc1, .slice oa1 (rep l k).pend.objects.length oc1, .slice ua1 (rep l k).pend.updates.length uc1⟩ 43 x1.heap.size rfl (RepIs.lt Hv.out))
     go_simp
     refine wpAnyH_all (rs := [5]) (by kernel_rfl) (by simp) (fun j hj => ?_)
     obtain rfl : j = 5 := by simpa using hj
     refine Or.inl ?_
     obtain ⟨v4, x4, hr4, hO4, hu4⟩ := append_reps 22 (HO.out _ hC2) hrow.out (fun b hb => ⟨by rcases hb with hb | hb; have := hb.2; simp; omega; simp; omega, fun e => by have := (Hob.out _ e).2; rcases hb with hb | hb; have := hb.1; omega; omega⟩) (by simp; omega) (by simp; omega)
     obtain ⟨a4, n4, c4, rfl⟩ := hO4.shape3
     refine wp_append_run (.tmp 14) (.tmp 17) 22 (by rfl) _ _ _ (by rfl) (by rfl) hr4 ?_
     simp only [Act.put, List.setIfInBounds_toArray, List.set_cons_zero, List.set_cons_succ]
     have hjo : ∀ b, (Value.slice va vn vc).ownBlock = some b → w.heap.size + 3 ≤ b ∧ b < wo.heap.size := fun b hb => Hob.out b hb
     have hS4 : (fun x : World => x.cell? ⟨wo.heap.size, 0, none⟩ = some (.slice (fr k).sa (rep l k).store.length (fr k).sc) ∧ x.cell? ⟨wo.heap.size, 1, none⟩ = some (.slice (fr k).ra (rep l k).refs.length (fr k).rc) ∧ x.cell? ⟨wo.heap.size, 2, none⟩ = some (.int .i64 (rep l k).gen) ∧ x.cell? ⟨wo.heap.size, 3, none⟩ = some (.int .i64 (rep l k).phase) ∧ x.cell? ⟨wo.heap.size, 4, none⟩ = some (.slice (fr k).oa (rep l k).pend.objects.length (fr k).oc) ∧ x.cell? ⟨wo.heap.size, 5, none⟩ = some (.slice (fr k).ua (rep l k).pend.updates.length (fr k).uc) ∧ x.cell? ⟨wo.heap.size, 6, none⟩ = some (.bool (rep l k).pend.force)) x4 := ⟨hu4.cell hS2.1 (fun e => absurd (hjo _ e).2 (Nat.lt_irrefl _)), hu4.cell hS2.2.1 (fun e => absurd (hjo _ e).2 (Nat.lt_irrefl _)), hu4.cell hS2.2.2.1 (fun e => absurd (hjo _ e).2 (Nat.lt_irrefl _)), hu4.cell hS2.2.2.2.1 (fun e => absurd (hjo _ e).2 (Nat.lt_irrefl _)), hu4.cell hS2.2.2.2.2.1 (fun e => absurd (hjo _ e).2 (Nat.lt_irrefl _)), hu4.cell hS2.2.2.2.2.2.1 (fun e => absurd (hjo _ e).2 (Nat.lt_irrefl _)), hu4.cell hS2.2.2.2.2.2.2 (fun e => absurd (hjo _ e).2 (Nat.lt_irrefl _))⟩
     have hJ4 := hu4.blk (HJ.out _ hC2) (fun e => by have := (hjo _ e).1; omega)
     have hR4 := HRu.out _ _ _ (hQR _ hC2) hu4 (fun b hb => by have := (hjo _ hb).1; omega)
     have HO4 := Lib.hid hO4
     refine ⟨hS4, ?_⟩
     clear hO4 hr4 hu4 hjo hrow
     refine wpAnyH_all (rs := [6]) (by kernel_rfl) (by simp) (fun j hj => ?_)
     obtain rfl : j = 6 := by simpa using hj
     refine Or.inl ?_
     go_simp
     first | refine ⟨hS4, ?_⟩ | skip
     refine wpAnyH_all (rs := [7]) (by kernel_rfl) (by simp) (fun j hj => ?_)
     obtain rfl : j = 7 := by simpa using hj
     refine Or.inl ?_
     have cJ := block_cell (j := 0) hJ4 rfl
     have fJ := block_free (j := 0) hJ4
     go_wp2_with fail
     first | refine ⟨hS4, by kernel_rfl, ?_⟩ | refine ⟨by kernel_rfl, ?_⟩
     have hu5 : Upd (fun b => b = w.heap.size + 2) x4 (x4.setCell ⟨w.heap.size + 2, 0, none⟩ (.slice a4 n4 c4)) := (Upd.refl (fun b => b = w.heap.size + 2) x4).setCell (p := ⟨w.heap.size + 2, 0, none⟩) (fun _ => rfl) _
     have hJ5 : (x4.setCell ⟨w.heap.size + 2, 0, none⟩ (.slice a4 n4 c4)).heap[w.heap.size + 2]? = some (.cells #[.slice a4 n4 c4] 24 (0, 0)) := block_setCell (j := 0) hJ4 (.slice a4 n4 c4)
     have hR5 := HRu.out _ _ _ hR4 hu5 (fun b hb => by omega)
     have hge : ∀ b, (F b ∨ ((x0.heap.size ≤ b ∧ b < x1.heap.size) ∨ b = x1.heap.size)) → w.heap.size + 3 ≤ b := fun b hb => by rcases hb with hb | hb | hb; exact HF.out b hb; omega; omega
     have hO5 : OwnF (w.heap.size + 3) _ (.slice a4 n4 c4) (l.take (k + 1)) := ⟨_, OwnC.list HTk.out.symm (HO4.out.upd hu5 (fun b hb e => by have := hge b hb; omega) (fun g hg e => by have := (HO4.out.block hg).1; omega)), hge⟩
     generalize x4.setCell ⟨w.heap.size + 2, 0, none⟩ (.slice a4 n4 c4) = x5 at *
     have HI5 := Lib.hid (show ∃ va vn vc, OwnF (w.heap.size + 3) x5 (.slice va vn vc) (l.take (k + 1)) ∧ x5.heap[w.heap.size + 2]? = some (.cells #[.slice va vn vc] 24 (0, 0)) from ⟨_, _, _, hO5, hJ5⟩)
     clear hO5 hJ5 hge hu5 HO4 cJ fJ hS4 hJ4 hS0 hS1 hS2 HS HO HJ HC Hv HI
     go_wp2_with fail
     go_roundw
     case rel => exact ⟨k + 1, by omega, by go_num, HI5.out, hR5⟩
     case measure => simp [intOf]; omega
    ·skip
     obtain rfl : j = 4 := by simpa using hj
     refine Or.inl ?_
     have hC2 := hQ.alloc _ (.cells #[.slice sa1 (rep l k).store.length sc1, .slice ra1 (rep l k).refs.length rc1, .int .i64 (rep l k).gen, .int .i64 (rep l k).phase, .slice oa1 (rep l k).pend.objects.length oc1, .slice ua1 (rep l k).pend.updates.length uc1, .bool (rep l k).pend.force] 43) hC1
     have hS2 := HS _ hC2
     have hrow := Lib.hid (reps_new x1 (rep l k) ⟨.slice sa1 (rep l k).store.length sc1, .slice ra1 (rep l k).refs.length rc1, .slice oa1 (rep l k).pend.objects.length oc1, .slice ua1 (rep l k).pend.updates.length uc1⟩ 43 x1.heap.size rfl (RepIs.lt Hv.out))
     go_simp
     refine wpAnyH_all (rs := [1]) (by kernel_rfl) (by simp) (fun j hj => ?_)
     obtain rfl : j = 1 := by simpa using hj
     refine Or.inl ?_
     have cJw := block_cell (j := 0) (HJ.out _ hC2) rfl
     go_simp
     clear cJw
     refine wpAnyH_all (rs := [5]) (by kernel_rfl) (by simp) (fun j hj => ?_)
     obtain rfl : j = 5 := by simpa using hj
     refine Or.inl ?_
     obtain ⟨v4, x4, hr4, hO4, hu4⟩ := append_reps 22 (HO.out _ hC2) hrow.out (fun b hb => ⟨by rcases hb with hb | hb; have := hb.2; simp; omega; simp; omega, fun e => by have := (Hob.out _ e).2; rcases hb with hb | hb; have := hb.1; omega; omega⟩) (by simp; omega) (by simp; omega)
     obtain ⟨a4, n4, c4, rfl⟩ := hO4.shape3
     refine wp_append_run (.tmp 14) (.tmp 17) 22 (by rfl) _ _ _ (by rfl) (by rfl) hr4 ?_
     simp only [Act.put, List.setIfInBounds_toArray, List.set_cons_zero, List.set_cons_succ]
     have hjo : ∀ b, (Value.slice va vn vc).ownBlock = some b → w.heap.size + 3 ≤ b ∧ b < wo.heap.size := fun b hb => Hob.out b hb
     have hS4 : (fun x : World => x.cell? ⟨wo.heap.size, 0, none⟩ = some (.slice (fr k).sa (rep l k).store.length (fr k).sc) ∧ x.cell? ⟨wo.heap.size, 1, none⟩ = some (.slice (fr k).ra (rep l k).refs.length (fr k).rc) ∧ x.cell? ⟨wo.heap.size, 2, none⟩ = some (.int .i64 (rep l k).gen) ∧ x.cell? ⟨wo.heap.size, 3, none⟩ = some (.int .i64 (rep l k).phase) ∧ x.cell? ⟨wo.heap.size, 4, none⟩ = some (.slice (fr k).oa (rep l k).pend.objects.length (fr k).oc) ∧ x.cell? ⟨wo.heap.size, 5, none⟩ = some (.slice (fr k).ua (rep l k).pend.updates.length (fr k).uc) ∧ x.cell? ⟨wo.heap.size, 6, none⟩ = some (.bool (rep l k).pend.force)) x4 := ⟨hu4.cell hS2.1 (fun e => absurd (hjo _ e).2 (Nat.lt_irrefl _)), hu4.cell hS2.2.1 (fun e => absurd (hjo _ e).2 (Nat.lt_irrefl _)), hu4.cell hS2.2.2.1 (fun e => absurd (hjo _ e).2 (Nat.lt_irrefl _)), hu4.cell hS2.2.2.2.1 (fun e => absurd (hjo _ e).2 (Nat.lt_irrefl _)), hu4.cell hS2.2.2.2.2.1 (fun e => absurd (hjo _ e).2 (Nat.lt_irrefl _)), hu4.cell hS2.2.2.2.2.2.1 (fun e => absurd (hjo _ e).2 (Nat.lt_irrefl _)), hu4.cell hS2.2.2.2.2.2.2 (fun e => absurd (hjo _ e).2 (Nat.lt_irrefl _))⟩
     have hJ4 := hu4.blk (HJ.out _ hC2) (fun e => by have := (hjo _ e).1; omega)
     have hR4 := HRu.out _ _ _ (hQR _ hC2) hu4 (fun b hb => by have := (hjo _ hb).1; omega)
     have HO4 := Lib.hid hO4
     refine ⟨hS4, ?_⟩
     clear hO4 hr4 hu4 hjo hrow
     refine wpAnyH_all (rs := [6]) (by kernel_rfl) (by simp) (fun j hj => ?_)
     obtain rfl : j = 6 := by simpa using hj
     refine Or.inl ?_
     go_simp
     first | refine ⟨hS4, ?_⟩ | skip
     refine wpAnyH_all (rs := [7]) (by kernel_rfl) (by simp) (fun j hj => ?_)
     obtain rfl : j = 7 := by simpa using hj
     refine Or.inl ?_
     have cJ := block_cell (j := 0) hJ4 rfl
     have fJ := block_free (j := 0) hJ4
     go_wp2_with fail
     first | refine ⟨hS4, by kernel_rfl, ?_⟩ | refine ⟨by kernel_rfl, ?_⟩
     have hu5 : Upd (fun b => b = w.heap.size + 2) x4 (x4.setCell ⟨w.heap.size + 2, 0, none⟩ (.slice a4 n4 c4)) := (Upd.refl (fun b => b = w.heap.size + 2) x4).setCell (p := ⟨w.heap.size + 2, 0, none⟩) (fun _ => rfl) _
     have hJ5 : (x4.setCell ⟨w.heap.size + 2, 0, none⟩ (.slice a4 n4 c4)).heap[w.heap.size + 2]? = some (.cells #[.slice a4 n4 c4] 24 (0, 0)) := block_setCell (j := 0) hJ4 (.slice a4 n4 c4)
     have hR5 := HRu.out _ _ _ hR4 hu5 (fun b hb => by omega)
     have hge : ∀ b, (F b ∨ ((x0.heap.size ≤ b ∧ b < x1.heap.size) ∨ b = x1.heap.size)) → w.heap.size + 3 ≤ b := fun b hb => by rcases hb with hb | hb | hb; exact HF.out b hb; omega; omega
     have hO5 : OwnF (w.heap.size + 3) _ (.slice a4 n4 c4) (l.take (k + 1)) := ⟨_, OwnC.list HTk.out.symm (HO4.out.upd hu5 (fun b hb e => by have := hge b hb; omega) (fun g hg e => by have := (HO4.out.block hg).1; omega)), hge⟩
     generalize x4.setCell ⟨w.heap.size + 2, 0, none⟩ (.slice a4 n4 c4) = x5 at *
     have HI5 := Lib.hid (show ∃ va vn vc, OwnF (w.heap.size + 3) x5 (.slice va vn vc) (l.take (k + 1)) ∧ x5.heap[w.heap.size + 2]? = some (.cells #[.slice va vn vc] 24 (0, 0)) from ⟨_, _, _, hO5, hJ5⟩)
     clear hO5 hJ5 hge hu5 HO4 cJ fJ hS4 hJ4 hS0 hS1 hS2 HS HO HJ HC Hv HI
     go_wp2_with fail
     go_roundw
     case rel => exact ⟨k + 1, by omega, by go_num, HI5.out, hR5⟩
     case measure => simp [intOf]; omega
  ·obtain rfl : k = n := by omega
   rw [HL.out] at hO
   have HOk := Lib.hid (And.intro hO hF)
   have hZ := HZ.out _ hRw
   have cJ := block_cell (j := 0) hJ rfl
   have cZ := block_cell (j := 0) hZ rfl
   have fZ := block_free (j := 0) hZ
   clear hO hF HI c0
   go_wp2_with fail
   have hu5 : Upd (fun b => b = w.heap.size + 1) wr (wr.setCell ⟨w.heap.size + 1, 0, none⟩ (.slice va vn vc)) := (Upd.refl (fun b => b = w.heap.size + 1) wr).setCell (p := ⟨w.heap.size + 1, 0, none⟩) (fun _ => rfl) _
   have hk5 : (wr.setCell ⟨w.heap.size + 1, 0, none⟩ (.slice va vn vc)).heap[w.heap.size + 1]? = some (.cells #[.slice va vn vc] 24 (0, 0)) := block_setCell (j := 0) hZ (.slice va vn vc)
   generalize wr.setCell ⟨w.heap.size + 1, 0, none⟩ (.slice va vn vc) = x5 at *
   have k0 := block_cell (j := 0) hk5 rfl
   refine bodyPost_ret (v := .agg #[.slice va vn vc]) (by simp [results, Tryz.results49, go_sem]; simp [k0] <;> rfl) rfl ?_
   refine ⟨_, rfl, ⟨F, (HOk.out.1.upd hu5 (fun b hb e => by have := HOk.out.2 b hb; omega) (fun g hg e => by have := (HOk.out.1.block hg).1; omega)).weaken (B' := w.heap.size) (fun _ h => h) (fun b hb => ⟨Nat.lt_of_lt_of_le (HOk.out.1.lt hb) hu5.size, HOk.out.1.own hb⟩) (by omega), fun b hb => by have := HOk.out.2 b hb; omega⟩, (hRb _ hRw).trans (hu5.below (B := w.heap.size) (hRb _ hRw).size (fun b hb => by omega))⟩
end Go.Proofs.YtgkbalhkjolnmaaGreatDoor
namespace Go.Proofs.YtgkbalhkjolnmaaGreatDoor
open Go.RowKit
set_option linter.unusedVariables false
set_option linter.unusedSimpArgs false
structure RightC (l : List Rep) : Prop where
 len : l.length = 3
 each : ∀ i, i < 3 → RightR (rep l i)
 refs : ∀ i j, i < 3 → j < 3 → (rep l i).gen = (rep l j).gen → (rep l i).refs = (rep l j).refs
 top : ∃ i j, i < j ∧ j < 3 ∧ (rep l i).gen = (rep l j).gen ∧ ∀ k, k < 3 → (rep l k).gen ≤ (rep l i).gen
theorem cnt_three (l : List Rep) (g : Int) : cnt l g 3 = (if (rep l 0).gen = g then 1 else 0) + (if (rep l 1).gen = g then 1 else 0) + (if (rep l 2).gen = g then 1 else 0) := by
 simp only [cnt]; omega
theorem oddB_false {x y : Rep} : oddB x y = false ↔ (x.gen = y.gen → x.refs = y.refs) := by
 unfold oddB
 by_cases h : x.gen = y.gen
 ·rw [show (x.gen == y.gen) = true by simpa using h, Bool.true_and, Bool.not_eq_false', sameRefs_iff]
  exact ⟨fun e _ => e, fun e => e h⟩
 ·rw [show (x.gen == y.gen) = false by simpa using h, Bool.false_and]
  exact ⟨fun _ e => absurd e h, fun _ => rfl⟩
theorem bad_odd {l : List Rep} {i k : Nat} (hi : i ≤ l.length) (h : cluBad l i = false) (hk : k < i) : oddB (rep l i) (rep l k) = false := by
 cases ho : oddB (rep l i) (rep l k)
 ·rfl
 ·rw [bad_at hi hk ho] at h; cases h
theorem clu_right {l : List Rep} : cluE l = 0 ↔ RightC l := by
 constructor
 ·intro h
  obtain ⟨hl, h1, h2, h3⟩ := cluE_zero h
  have hrf : ∀ i j, j < i → i < 3 → (rep l i).gen = (rep l j).gen → (rep l i).refs = (rep l j).refs := fun i j hij hi => oddB_false.1 (bad_odd (by omega) (h2 i hi) hij)
  refine ⟨hl, fun i hi => rep_right.1 (h1 i hi), fun i j hi hj e => ?_, ?_⟩
  ·rcases Nat.lt_trichotomy i j with h | h | h
   ·exact (hrf j i h hj e.symm).symm
   ·subst h; rfl
   ·exact hrf i j h hi e
  ·have hb := (best_inv l l.length).1
   rw [hl] at hb
   rw [many_cnt, hl, cnt_three] at h3
   have hbe : (bestTo l 3).1 = best l := by unfold best; rw [hl]
   rw [hbe] at hb
   generalize (rep l (best l)).gen = G at *
   have g0 := hb 0 (by omega)
   have g1 := hb 1 (by omega)
   have g2 := hb 2 (by omega)
   by_cases e0 : (rep l 0).gen = G
   ·by_cases e1 : (rep l 1).gen = G
    ·exact ⟨0, 1, by omega, by omega, by omega, fun k hk => by rw [e0]; exact hb k hk⟩
    ·by_cases e2 : (rep l 2).gen = G
     ·exact ⟨0, 2, by omega, by omega, by omega, fun k hk => by rw [e0]; exact hb k hk⟩
     ·rw [if_pos e0, if_neg e1, if_neg e2] at h3; omega
   ·by_cases e1 : (rep l 1).gen = G
    ·by_cases e2 : (rep l 2).gen = G
     ·exact ⟨1, 2, by omega, by omega, by omega, fun k hk => by rw [e1]; exact hb k hk⟩
     ·rw [if_neg e0, if_pos e1, if_neg e2] at h3; omega
    ·rw [if_neg e0, if_neg e1] at h3
     split at h3 <;> omega
 ·intro h
  have h0 : scan (fun i => repCheck (rep l i)) 3 = 0 := scan_of_zero fun k hk => rep_right.2 (h.each k hk)
  have h1 : scan (badE l) 3 = 0 := scan_of_zero fun k hk => by
   unfold badE
   rw [bad_not (by rw [h.len]; omega) (fun j hj => oddB_false.2 fun e => h.refs k j hk (by omega) e)]; rfl
  rw [cluE_few h.len h0 h1]
  refine if_neg ?_
  rw [many_cnt, h.len]
  obtain ⟨i, j, hij, hj, e, hm⟩ := h.top
  have hb := (best_inv l l.length).1
  rw [h.len] at hb
  have hbe : (bestTo l 3).1 = best l := by unfold best; rw [h.len]
  rw [hbe] at hb
  have hG : (rep l (best l)).gen = (rep l i).gen := by
   have hlt : best l < 3 := by have := best_lt (l := l) (by have := h.len; omega); have := h.len; omega
   have := hm _ hlt
   have := hb i (by omega)
   omega
  rw [hG, cnt_three]
  have hcase : (i = 0 ∧ j = 1) ∨ (i = 0 ∧ j = 2) ∨ (i = 1 ∧ j = 2) := by omega
  rcases hcase with ⟨rfl, rfl⟩ | ⟨rfl, rfl⟩ | ⟨rfl, rfl⟩
  ·rw [if_pos rfl, if_pos e.symm]; split <;> omega
  ·rw [if_pos rfl, if_pos e.symm]; split <;> omega
  ·rw [if_pos rfl, if_pos e.symm]; split <;> omega
def bitB (n : Int) (i : Nat) : Bool := n / 2 ^ i % 2 == 1
def voteAt (l : List Rep) (p : Psh) (up : Int) (i : Nat) : ByteArray := if bitB up i = true ∧ (rep l i).phase = 0 then voteR (rep l i) p else ByteArray.empty
def votesL (l : List Rep) (p : Psh) (up : Int) : List ByteArray := [voteAt l p up 0, voteAt l p up 1, voteAt l p up 2]
def commB (l : List Rep) (p : Psh) (up late : Int) (i : Nat) : Bool := (tallyR (votesL l p up)).2 && ((voteAt l p up i).toList == (tallyR (votesL l p up)).1.toList) && !bitB late i
def commN (l : List Rep) (p : Psh) (up late : Int) : Nat → Nat
 | 0 => 0
 | k + 1 => commN l p up late k + if commB l p up late k = true then 1 else 0
def pushE0 (p : Psh) (up late : Int) : Int := if checkPsh p ≠ 0 then checkPsh p else if 0 ≤ up ∧ up ≤ 7 ∧ 0 ≤ late ∧ late ≤ 7 then 0 else 3
def pushDo (l : List Rep) (p : Psh) (up late : Int) : Bool := decide (2 ≤ commN l p up late 3)
def fullE (l : List Rep) (p : Psh) (up late : Int) (i : Nat) : Int := if pushDo l p up late = true ∧ commB l p up late i = true ∧ (rep l i).gen = 999 then 2 else 0
def pushRE (l : List Rep) (p : Psh) (up late : Int) : Int := if pushE0 p up late ≠ 0 then pushE0 p up late else scan (fullE l p up late) 3
def pushAt (l : List Rep) (p : Psh) (up late : Int) (i : Nat) : Rep := if pushDo l p up late = true ∧ commB l p up late i = true then doneR (rep l i) p else rep l i
def pushRL (l : List Rep) (p : Psh) (up late : Int) : List Rep := if pushRE l p up late = 0 then [pushAt l p up late 0, pushAt l p up late 1, pushAt l p up late 2] else []
def pushRD (l : List Rep) (p : Psh) (up late : Int) : Bool := if pushRE l p up late = 0 then pushDo l p up late else false
def pushCE (l : List Rep) (p : Psh) (up late : Int) : Int := if cluE l ≠ 0 then cluE l else pushRE l p up late
def pushCL (l : List Rep) (p : Psh) (up late : Int) : List Rep := if cluE l = 0 then pushRL l p up late else []
def pushCD (l : List Rep) (p : Psh) (up late : Int) : Bool := if cluE l = 0 then pushRD l p up late else false
theorem reps_three {l : List Rep} (h : l.length = 3) : l = [rep l 0, rep l 1, rep l 2] := by
 match l, h with
 | [a, b, c], _ => rfl
theorem pushRL_at {l : List Rep} {p : Psh} {up late : Int} (h : pushRE l p up late = 0) {i : Nat} (hi : i < 3) : rep (pushRL l p up late) i = pushAt l p up late i := by
 unfold pushRL
 rw [if_pos h]
 have : i = 0 ∨ i = 1 ∨ i = 2 := by omega
 rcases this with rfl | rfl | rfl <;> rfl
theorem commN_three (l : List Rep) (p : Psh) (up late : Int) : commN l p up late 3 = (if commB l p up late 0 = true then 1 else 0) + (if commB l p up late 1 = true then 1 else 0) + (if commB l p up late 2 = true then 1 else 0) := by
 simp only [commN]; omega
theorem commN_le (l : List Rep) (p : Psh) (up late : Int) : ∀ k, commN l p up late k ≤ k
 | 0 => Nat.le_refl _
 | k + 1 => by have := commN_le l p up late k; unfold commN; split <;> omega
def numOf (l : List UInt8) : Nat := l.foldl (fun a c => a * 10 + (c.toNat - 48)) 0
theorem num_dec : ∀ n, n < 1000 → numOf (Lib.decDigits n) = n := by
 have h : (List.range 1000).all (fun n => numOf (Lib.decDigits n) == n) = true := by decide +kernel
 intro n hn
 have := List.all_eq_true.1 h n (List.mem_range.2 hn)
 simpa using this
theorem dec_inj {a b : Int} (ha : 0 ≤ a ∧ a ≤ 999) (hb : 0 ≤ b ∧ b ≤ 999) (h : decB a = decB b) : a = b := by
 unfold decB at h
 have h1 : Lib.decDigits a.toNat = Lib.decDigits b.toNat := by
  have := congrArg (fun x : ByteArray => x.data.toList) h
  simpa using this
 have h2 := congrArg numOf h1
 rw [num_dec _ (by omega), num_dec _ (by omega)] at h2
 omega
theorem ba_left {a b c : ByteArray} (h : a ++ b = a ++ c) : b = c := by
 have := congrArg (fun x : ByteArray => x.data.toList) h
 simp only [ByteArray.data_append, Array.toList_append] at this
 exact ba_ext (List.append_cancel_left this)
theorem ba_right {a b c : ByteArray} (h : a ++ c = b ++ c) : a = b := by
 have := congrArg (fun x : ByteArray => x.data.toList) h
 simp only [ByteArray.data_append, Array.toList_append] at this
 exact ba_ext (List.append_cancel_right this)
theorem yes_not_no {r : Rep} {p : Psh} (h : yesB (voteR r p) = true) : tryE r p = 0 := by
 by_cases ht : tryE r p = 0
 ·exact ht
 ·unfold voteR at h
  rw [if_pos ht] at h
  unfold yesB at h
  rw [ByteArray.data_append, Array.toList_append] at h
  simp [noB] at h
theorem vote_gen {r s : Rep} {p : Psh} (hr : 0 ≤ r.gen ∧ r.gen ≤ 999) (hs : 0 ≤ s.gen ∧ s.gen ≤ 999) (h1 : tryE r p = 0) (h2 : tryE s p = 0) (h : voteR r p = voteR s p) : r.gen = s.gen := by
 unfold voteR at h
 rw [if_neg (by simpa using h1), if_neg (by simpa using h2)] at h
 exact dec_inj hr hs (ba_left (ba_right (ba_right h)))
structure Comm (l : List Rep) (p : Psh) (up late : Int) (i : Nat) : Prop where
 isUp : bitB up i = true
 idle : (rep l i).phase = 0
 onTime : bitB late i = false
 told : voteR (rep l i) p = (tallyR (votesL l p up)).1
 vote : tryE (rep l i) p = 0
theorem comm_of {l : List Rep} {p : Psh} {up late : Int} {i : Nat} (h : commB l p up late i = true) : Comm l p up late i := by
 unfold commB at h
 rw [Bool.and_eq_true, Bool.and_eq_true, text_eq, decide_eq_true_iff, Bool.not_eq_true'] at h
 obtain ⟨⟨h1, h2⟩, h3⟩ := h
 have hT : tallyR (votesL l p up) = ((tallyR (votesL l p up)).1, true) := Prod.ext rfl h1
 obtain ⟨_, _, hy⟩ := tally_iff.1 hT
 rw [← h2] at hy
 unfold voteAt at hy h2
 by_cases hc : bitB up i = true ∧ (rep l i).phase = 0
 ·rw [if_pos hc] at hy h2
  exact ⟨hc.1, hc.2, h3, h2, yes_not_no hy⟩
 ·rw [if_neg hc, yes_empty] at hy; cases hy
theorem comm_gen {l : List Rep} {p : Psh} {up late : Int} (hc : RightC l) {i j : Nat} (hi : i < 3) (hj : j < 3) (h1 : Comm l p up late i) (h2 : Comm l p up late j) : (rep l i).gen = (rep l j).gen :=
 vote_gen (hc.each i hi).gen (hc.each j hj).gen h1.vote h2.vote (h1.told.trans h2.told.symm)
theorem comm_top {l : List Rep} {p : Psh} {up late : Int} (hc : RightC l) (hd : pushDo l p up late = true) : ∃ i j, i < j ∧ j < 3 ∧ Comm l p up late i ∧ Comm l p up late j ∧ commB l p up late i = true ∧ commB l p up late j = true ∧ ∀ k, k < 3 → (rep l k).gen ≤ (rep l i).gen := by
 have hn : 2 ≤ commN l p up late 3 := by simpa [pushDo] using hd
 rw [commN_three] at hn
 have hex : ∃ i j, i < j ∧ j < 3 ∧ commB l p up late i = true ∧ commB l p up late j = true := by
  by_cases c0 : commB l p up late 0 = true
  ·by_cases c1 : commB l p up late 1 = true
   ·exact ⟨0, 1, by omega, by omega, c0, c1⟩
   ·by_cases c2 : commB l p up late 2 = true
    ·exact ⟨0, 2, by omega, by omega, c0, c2⟩
    ·rw [if_pos c0, if_neg c1, if_neg c2] at hn; omega
  ·by_cases c1 : commB l p up late 1 = true
   ·by_cases c2 : commB l p up late 2 = true
    ·exact ⟨1, 2, by omega, by omega, c1, c2⟩
    ·rw [if_neg c0, if_pos c1, if_neg c2] at hn; omega
   ·rw [if_neg c0, if_neg c1] at hn
    split at hn <;> omega
 obtain ⟨i, j, hij, hj, ci, cj⟩ := hex
 have Ci := comm_of ci
 have Cj := comm_of cj
 have hg := comm_gen hc (by omega) hj Ci Cj
 refine ⟨i, j, hij, hj, Ci, Cj, ci, cj, ?_⟩
 obtain ⟨a, b, hab, hb, e, hm⟩ := hc.top
 have : (rep l i).gen = (rep l a).gen := by
  have hx : i = a ∨ i = b ∨ j = a ∨ j = b := by omega
  rcases hx with rfl | rfl | rfl | rfl
  ·rfl
  ·exact e.symm
  ·exact hg
  ·rw [hg]; exact e.symm
 intro k hk
 rw [this]; exact hm k hk
theorem full_not {l : List Rep} {p : Psh} {up late : Int} (he : pushRE l p up late = 0) (hd : pushDo l p up late = true) {i : Nat} (hi : i < 3) (h : commB l p up late i = true) : (rep l i).gen ≠ 999 := by
 intro hg
 unfold pushRE at he
 split at he
 ·rename_i h1; exact absurd he h1
 ·have := scan_zero he i hi
  unfold fullE at this
  rw [if_pos ⟨hd, h, hg⟩] at this; cases this
theorem push_zero {l : List Rep} {p : Psh} {up late : Int} (he : pushRE l p up late = 0) : checkPsh p = 0 ∧ 0 ≤ up ∧ up ≤ 7 ∧ 0 ≤ late ∧ late ≤ 7 := by
 unfold pushRE at he
 split at he
 ·rename_i h1; exact absurd he h1
 ·rename_i h1
  have h2 : pushE0 p up late = 0 := by simpa using h1
  unfold pushE0 at h2
  split at h2
  ·rename_i h3; exact absurd h2 h3
  ·rename_i h3
   split at h2
   ·rename_i h4; exact ⟨by simpa using h3, h4⟩
   ·cases h2
theorem done_refs {r s : Rep} {p : Psh} (h1 : tryE r p = 0) (h2 : tryE s p = 0) (h : r.refs = s.refs) : tryM r p = tryM s p := by
 rw [(try_ok h1).moved, (try_ok h2).moved, h]
theorem pushAt_not {l : List Rep} {p : Psh} {up late : Int} {i : Nat} (h : ¬ (pushDo l p up late = true ∧ commB l p up late i = true)) : pushAt l p up late i = rep l i := by unfold pushAt; rw [if_neg h]
theorem pushAt_done {l : List Rep} {p : Psh} {up late : Int} {i : Nat} (hd : pushDo l p up late = true) (h : commB l p up late i = true) : pushAt l p up late i = doneR (rep l i) p := by unfold pushAt; rw [if_pos ⟨hd, h⟩]
theorem push_right {l : List Rep} {p : Psh} {up late : Int} (hc : RightC l) (he : pushRE l p up late = 0) : RightC (pushRL l p up late) := by
 have hat : ∀ i, i < 3 → rep (pushRL l p up late) i = pushAt l p up late i := fun i hi => pushRL_at he hi
 have hlen : (pushRL l p up late).length = 3 := by unfold pushRL; rw [if_pos he]; rfl
 cases hd : pushDo l p up late
 ·have e : ∀ i, i < 3 → rep (pushRL l p up late) i = rep l i := fun i hi => by rw [hat i hi]; exact pushAt_not (by simp [hd])
  refine ⟨hlen, fun i hi => by rw [e i hi]; exact hc.each i hi, fun i j hi hj => by rw [e i hi, e j hj]; exact hc.refs i j hi hj, ?_⟩
  obtain ⟨i, j, hij, hj, e1, hm⟩ := hc.top
  exact ⟨i, j, hij, hj, by rw [e i (by omega), e j hj]; exact e1, fun k hk => by rw [e k hk, e i (by omega)]; exact hm k hk⟩
 ·obtain ⟨i, j, hij, hj, Ci, Cj, ci, cj, hm⟩ := comm_top hc hd
  have hgen : ∀ k, k < 3 → (rep (pushRL l p up late) k).gen ≤ (rep l i).gen + 1 ∧ (commB l p up late k = true → (rep (pushRL l p up late) k).gen = (rep l i).gen + 1) ∧ (commB l p up late k = false → rep (pushRL l p up late) k = rep l k) := fun k hk => by
   rw [hat k hk]
   cases hb : commB l p up late k
   ·rw [pushAt_not (by simp [hb])]
    exact ⟨by have := hm k hk; omega, fun h => by (cases h), fun _ => rfl⟩
   ·rw [pushAt_done hd hb]
    have : (rep l k).gen = (rep l i).gen := comm_gen hc hk (by omega) (comm_of hb) Ci
    exact ⟨by show (rep l k).gen + 1 ≤ _; omega, fun _ => by show (rep l k).gen + 1 = _; omega, fun h => by (cases h)⟩
  refine ⟨hlen, fun k hk => ?_, fun a b ha hb e => ?_, ⟨i, j, hij, hj, ?_, fun k hk => ?_⟩⟩
  ·rw [hat k hk]
   cases hb : commB l p up late k
   ·rw [pushAt_not (by simp [hb])]; exact hc.each k hk
   ·rw [pushAt_done hd hb]
    exact done_right (hc.each k hk) (comm_of hb).vote (full_not he hd hk hb)
  ·cases ca : commB l p up late a <;> cases cb : commB l p up late b
   ·rw [(hgen a ha).2.2 ca, (hgen b hb).2.2 cb] at e ⊢; exact hc.refs a b ha hb e
   ·rw [(hgen a ha).2.2 ca, (hgen b hb).2.1 cb] at e; have := hm a ha; omega
   ·rw [(hgen a ha).2.1 ca, (hgen b hb).2.2 cb] at e; have := hm b hb; omega
   ·rw [hat a ha, hat b hb, pushAt_done hd ca, pushAt_done hd cb]
    exact done_refs (comm_of ca).vote (comm_of cb).vote (hc.refs a b ha hb (comm_gen hc ha hb (comm_of ca) (comm_of cb)))
  ·rw [(hgen i (by omega)).2.1 ci, (hgen j hj).2.1 cj]
  ·rw [(hgen i (by omega)).2.1 ci]; exact (hgen k hk).1
theorem pushC_zero {l : List Rep} {p : Psh} {up late : Int} (h : pushCE l p up late = 0) : RightC l ∧ pushRE l p up late = 0 ∧ pushCL l p up late = pushRL l p up late ∧ pushCD l p up late = pushDo l p up late := by
 unfold pushCE at h
 by_cases hc : cluE l = 0
 ·rw [if_neg (by simpa using hc)] at h
  exact ⟨clu_right.1 hc, h, by unfold pushCL; rw [if_pos hc], by unfold pushCD pushRD; rw [if_pos hc, if_pos h]⟩
 ·rw [if_pos hc] at h; exact absurd h hc
theorem pushC_bad {l : List Rep} {p : Psh} {up late : Int} (h : pushCE l p up late ≠ 0) : pushCL l p up late = [] ∧ pushCD l p up late = false := by
 unfold pushCE at h
 by_cases hc : cluE l = 0
 ·rw [if_neg (by simpa using hc)] at h
  exact ⟨by unfold pushCL pushRL; rw [if_pos hc, if_neg h], by unfold pushCD pushRD; rw [if_pos hc, if_neg h]⟩
 ·exact ⟨by unfold pushCL; rw [if_neg hc], by unfold pushCD; rw [if_neg hc]⟩
theorem done_ids {r : Rep} {p : Psh} (h : tryE r p = 0) {k : Nat} (hk : k < p.updates.length) : idOf (doneR r p).refs (mv p.updates k).name = (mv p.updates k).new := by
 have hT := try_ok h
 show idOf (tryM r p) _ = _
 rw [hT.moved]
 exact moved_id (checkRefs_zero.1 hT.refs).2.asc hT.mvs _ hk (Nat.le_refl _)
end Go.Proofs.YtgkbalhkjolnmaaGreatDoor
namespace Go.Proofs.YtgkbalhkjolnmaaGreatDoor
open Go.RowKit
set_option linter.unusedVariables false
set_option linter.unusedSimpArgs false
theorem bit_all : ∀ (k : Fin 8) (i : Fin 3), (bits BinOp.and IntKind.i64 ((k.1 : Int) / 2 ^ min i.1 64) 1 == 0) = (!bitB (k.1 : Int) i.1) ∧ (bits BinOp.and IntKind.i64 ((k.1 : Int) / 2 ^ min i.1 64) 1 == 1) = bitB (k.1 : Int) i.1 := by decide +kernel
theorem bit_and {n : Int} {i : Nat} (h : 0 ≤ n ∧ n ≤ 7) (hi : i < 3) : (bits BinOp.and IntKind.i64 (n / 2 ^ min i 64) 1 == 0) = (!bitB n i) ∧ (bits BinOp.and IntKind.i64 (n / 2 ^ min i 64) 1 == 1) = bitB n i := by
 obtain ⟨k, rfl⟩ : ∃ k : Nat, n = (k : Int) := ⟨n.toNat, by omega⟩
 exact bit_all ⟨k, by omega⟩ ⟨i, hi⟩
set_option maxRecDepth 100000 in
set_option maxHeartbeats 4000000 in
theorem commits_any (M i : Nat) (vv : Value) (vs : List ByteArray) (t : ByteArray) (late : Int) (S : Nat → Prop) (w : World) (c1 : w.cell? ⟨M, 1, none⟩ = some vv) (c2 : w.cell? ⟨M, 2, none⟩ = some (.string t)) (hv : StrsV S w vv vs) (hi : i < vs.length) (hl : 0 ≤ late ∧ late ≤ 7) (hn : vs.length ≤ 3) :
  Calls Tryz.prog 108 #[.pointer (some ⟨M, 0, none⟩), .int .i64 (i : Int), .int .i64 late] w fun e w' => e = .returned (.bool (((sa vs i).toList == t.toList) && !bitB late i)) ∧ Below w.heap.size w w' := by
 obtain ⟨a, n, cap, HN, rfl, h1, h2, h3, h4⟩ := hv.open
 obtain ⟨b, off, rfl, _, h5⟩ := h4 (by have := HN.out; omega)
 have hin : i < n := by have := HN.out; omega
 have i1 : (0 : Int) ≤ (i : Int) := by omega
 have i2 : (i : Int) < (n : Int) := by omega
 have x0 := h5 i w hin (Below.refl _ _)
 have HL := Lib.hid hl
 have HNn := Lib.hid hn
 clear hv hi hl hn h4 h5 h1 h2 h3
 generalize sa vs i = s at *
 have Hb := Lib.hid (bit_and (n := late) (i := i) HL.out (by have := HNn.out; have := HN.out; omega)).1
 cases hq : (s.toList == t.toList)
 all_goals
  go_enter Tryz.func108, Tryz.ntmps108
  go_wp2_with fail
  go_quiet (fail)
  generalize hw2 : w.drewN _ = w2
  have HE := Lib.hid (show Below w.heap.size w w2 by rw [← hw2]; exact below_drewN w _ _ (Below.refl _ _))
  clear hw2
  go_wp2_with fail
  go_ret
 ·exact ⟨rfl, HE.out⟩
 ·exact ⟨by rw [Hb.out]; rfl, HE.out⟩
def OwnS (B : Nat) (w : World) (v : Value) (l : List ByteArray) : Prop := w.ownsRow B 9 1 v l.length (l.map Value.string) ∧ ∀ s ∈ l, s.size ≤ 140737488351232
theorem OwnS.below {B : Nat} {w w' : World} {v : Value} {l : List ByteArray} (h : OwnS B w v l) (hb : Below w.heap.size w w') : OwnS B w' v l := ⟨own_below h.1 hb, h.2⟩
theorem OwnS.upd {T : Nat → Prop} {B : Nat} {w w' : World} {v : Value} {l : List ByteArray} (h : OwnS B w v l) (hu : Upd T w w') (hT : ∀ g, v.ownBlock = some g → ¬ T g) : OwnS B w' v l := ⟨own_upd h.1 hu hT, h.2⟩
theorem OwnS.strs {B : Nat} {w : World} {v : Value} {l : List ByteArray} (h : OwnS B w v l) (hl : l.length ≤ 3) : StrsV (fun b => B ≤ b) w v l := own_strs h.1 rfl h.2 (by omega)
def LeadAt (B g c M : Nat) (w : World) (L : List Rep) (vs : List ByteArray) (t : ByteArray) : Prop :=
 ∃ (F : Nat → Prop) (vv : Value), OwnC F B w (.slice (some ⟨g, 0, none⟩) L.length c) L ∧ OwnS B w vv vs ∧ (∀ b, F b → B ≤ b ∧ b ≠ M ∧ vv.ownBlock ≠ some b) ∧ vv.ownBlock ≠ some M ∧ vv.ownBlock ≠ some g ∧ g ≠ M ∧
  w.heap[M]? = some (.cells #[.slice (some ⟨g, 0, none⟩) L.length c, vv, .string t] 124 (0, 0))
theorem LeadAt.below {B g c M : Nat} {w w' : World} {L : List Rep} {vs : List ByteArray} {t : ByteArray} (h : LeadAt B g c M w L vs t) (hb : Below w.heap.size w w') : LeadAt B g c M w' L vs t := by
 obtain ⟨F, vv, h1, h2, h3, h4, h5, h6, h7⟩ := h
 exact ⟨F, vv, h1.below hb, h2.below hb, h3, h4, h5, h6, (hb.block _ (lt_of_block h7)).trans h7⟩
def cntV (vs : List ByteArray) (t : ByteArray) (ok : Bool) (late : Int) : Nat → Nat
 | 0 => 0
 | k + 1 => cntV vs t ok late k + if (ok && (((sa vs k).toList == t.toList) && !bitB late k)) = true then 1 else 0
theorem cntV_le (vs : List ByteArray) (t : ByteArray) (ok : Bool) (late : Int) : ∀ k, cntV vs t ok late k ≤ k
 | 0 => Nat.le_refl _
 | k + 1 => by have := cntV_le vs t ok late k; unfold cntV; split <;> omega
def Decides (M : Nat) (late : Int) (w : World) (f : Value) : Prop := ∃ p q : Nat, f = .func (.func 109) #[] #[.pointer (some ⟨p, 0, none⟩), .pointer (some ⟨q, 0, none⟩)] ∧ w.heap[p]? = some (.cells #[.pointer (some ⟨M, 0, none⟩)] 122 (0, 0)) ∧ w.heap[q]? = some (.cells #[.int .i64 late] 3 (0, 0))
set_option maxRecDepth 100000 in
set_option maxHeartbeats 8000000 in
theorem decide_any (g c M B : Nat) (w : World) (L : List Rep) (vs : List ByteArray) (t0 : ByteArray) (late : Int) (hM : LeadAt B g c M w L vs t0) (h3 : vs.length = 3) (hl : 0 ≤ late ∧ late ≤ 7) (hBM : B ≤ M) :
  Calls Tryz.prog 73 #[.pointer (some ⟨M, 0, none⟩), .int .i64 late] w fun e w' => ∃ f, e = .returned f ∧ Below B w w' ∧ LeadAt B g c M w' L vs (tallyS vs).1 ∧ (¬ 2 ≤ cntV vs (tallyS vs).1 (tallyS vs).2 late 3 → f = .nilFunc) ∧ (2 ≤ cntV vs (tallyS vs).1 (tallyS vs).2 late 3 → Decides M late w' f) := by
 have HM := Lib.hid hM
 obtain ⟨F, vv, hO, hV, hF, hvM, hvg, hgM, hMb⟩ := hM
 have hMs : M < w.heap.size := lt_of_block hMb
 have HO := Lib.hid hO
 have HV := Lib.hid hV
 have HF := Lib.hid hF
 have HvM := Lib.hid hvM
 have Hvg := Lib.hid hvg
 have HgM := Lib.hid hgM
 have HMb := Lib.hid hMb
 have H3 := Lib.hid h3
 have HLt := Lib.hid hl
 obtain ⟨⟨va, vc⟩, hvv⟩ := (hV.strs (by omega)).shape
 obtain ⟨n, hn⟩ : ∃ n : Nat, n = 3 := ⟨3, rfl⟩
 clear hO hV hF hvM hvg hgM h3 hl HM
 obtain ⟨R, hR, hR1, HB0⟩ := cls_allocs w [.cells #[.pointer (some ⟨M, 0, none⟩)] 122, .cells #[.int .i64 late] 3]
 simp only [List.foldl] at hR1
 have hRb := hR.below
 have hRn := hR.next
 have q2 := fun x (hx : In R x) => block_cell (j := 0) (HB0 x hx 0 _ rfl) rfl
 have q3 := fun x (hx : In R x) => block_cell (j := 0) (HB0 x hx 1 _ rfl) rfl
 simp only [Nat.add_zero] at q2 q3
 have m1 := fun x (hx : In R x) => below_cell (hRb _ hx) (block_cell (j := 1) hMb rfl)
 have HC := Lib.hid (tally_any vs vv _ _ ((HV.out.strs (by have := H3.out; omega)).below (hRb _ hR1)))
 have Hvv := Lib.hid hvv
 subst hvv
 simp only [H3.out] at m1 HC
 clear hMb Hvv
 obtain ⟨told, htold⟩ : ∃ told, told = (tallyS vs).1 := ⟨_, rfl⟩
 obtain ⟨ok, hok⟩ : ∃ ok, ok = (tallyS vs).2 := ⟨_, rfl⟩
 rw [← htold, ← hok] at HC ⊢
 clear htold hok
 go_enter Tryz.func73, Tryz.ntmps73
 go_wp2_with fail
 refine HC.out.mono ?_
 rintro e x1 ⟨rfl, hb1⟩
 have hRx := hRn _ _ hR1 hb1
 have hbx := hRb _ hRx
 have hMx := (hbx.block _ hMs).trans HMb.out
 have j2 := block_cell (j := 2) hMx rfl
 have f2 := block_free (j := 2) hMx
 have hU : Upd (fun b => b = M) x1 (x1.setCell ⟨M, 2, none⟩ (.string told)) := (Upd.refl (fun b => b = M) _).setCell (p := ⟨M, 2, none⟩) (fun _ => rfl) _
 have hM2 := block_setCell (j := 2) hMx (.string told)
 simp only [List.setIfInBounds_toArray, List.set_cons_zero, List.set_cons_succ] at hM2
 have b2 := HB0 x1 hRx 0 _ rfl
 have b3 := HB0 x1 hRx 1 _ rfl
 simp only [Nat.add_zero] at b2
 have k2 := hU.blk b2 (by omega)
 have k3 := hU.blk b3 (by omega)
 obtain ⟨T, hT, hT1, _⟩ := cls_plain (x1.setCell ⟨M, 2, none⟩ (.string told))
 have hTb := hT.below
 have hTn := hT.next
 have s2 := fun x (hx : In T x) => below_cell (hTb _ hx) (block_cell (j := 0) k2 rfl)
 have s3 := fun x (hx : In T x) => below_cell (hTb _ hx) (block_cell (j := 0) k3 rfl)
 have Hk := Lib.hid (fun x (hx : In T x) => And.intro (((hTb _ hx).block _ (lt_of_block k2)).trans k2) (((hTb _ hx).block _ (lt_of_block k3)).trans k3))
 have s1 := fun x (hx : In T x) => below_cell (hTb _ hx) (block_cell (j := 1) hM2 rfl)
 have s4 := fun x (hx : In T x) => below_cell (hTb _ hx) (block_cell (j := 2) hM2 rfl)
 have hVx := (HV.out.below hbx).upd hU (fun q hq e => HvM.out (by rw [hq, e]))
 have HC2 := Lib.hid (fun x (hx : In T x) (k : Nat) (hk : k < 3) => commits_any M k (.slice va vs.length vc) vs told late _ x (s1 x hx) (s4 x hx) ((hVx.strs (by have := H3.out; omega)).below (hTb _ hx)) (by rw [H3.out]; exact hk) HLt.out (by rw [H3.out]; exact Nat.le_refl _))
 have HLd := Lib.hid (show LeadAt B g c M (x1.setCell ⟨M, 2, none⟩ (.string told)) L vs told from ⟨F, _, (HO.out.below hbx).upd hU (fun b hb e => (HF.out b hb).2.1 e) (fun q hq e => by simp only [Value.ownBlock, Option.some.injEq] at hq; exact HgM.out (hq.trans e)), hVx, HF.out, HvM.out, Hvg.out, HgM.out, hM2⟩)
 have HBw := Lib.hid ((hbx.mono (show B ≤ w.heap.size by omega)).trans (hU.below (B := B) (by have := hbx.size; omega) (fun b hb => by subst hb; exact hBM)))
 have z1 := s1 _ hT1
 have z2 := s2 _ hT1
 have z3 := s3 _ hT1
 simp only [H3.out] at s1 z1
 clear hVx hU hM2 k2 k3 b2 b3 hMx hbx HC hb1 s4
 go_wp2_with fail
 generalize x1.setCell ⟨M, 2, none⟩ (.string told) = x2 at *
 clear j2 f2 m1 q2 q3 hRx z1 z2 z3
 go_loopw [26, 7] (fun a b wr => ∃ k : Nat, k ≤ 3 ∧ a = .int .i64 k ∧ b = .int .i64 (cntV vs told ok late k) ∧ In T wr) (fun a _ _ => 3 - (intOf a).toNat)
 case atStart => exact ⟨0, by omega, rfl, rfl, hT1⟩
 case round =>
  obtain ⟨k, hk, rfl, rfl, hTr⟩ := hrel
  by_cases hlt : k < 3
  case neg =>
   obtain rfl : k = 3 := by omega
   have hc := cntV_le vs told ok late 3
   have HNe : Hid (∃ N, N = cntV vs told ok late 3) := ⟨_, rfl⟩
   obtain ⟨N, hN⟩ := HNe.out
   rw [← hN] at hc ⊢
   have HNe := Lib.hid hN
   clear hN
   have HLe := Lib.hid (HLd.out.below (hTb _ hTr))
   have HBe := Lib.hid (HBw.out.trans ((hTb _ hTr).mono (show B ≤ x2.heap.size by have := HBw.out.size; omega)))
   have hw := wrap_in (n := 2 * (N : Int)) (by omega)
   have y2 := s2 _ hTr
   have y3 := s3 _ hTr
   by_cases h2 : 2 ≤ N
   case pos =>
    have hq : decide (2 * (N : Int) ≤ 3) = false := by simp; omega
    have H2 := Lib.hid h2
    have Hy := Lib.hid (Hk.out _ hTr)
    clear h2 hc
    go_wp2_with fail
    go_ret
    exact ⟨_, rfl, HBe.out, HLe.out, fun h => absurd H2.out (by rw [HNe.out]; exact h), fun _ => ⟨_, _, rfl, Hy.out.1, Hy.out.2⟩⟩
   case neg =>
    have hq : decide (2 * (N : Int) ≤ 3) = true := by simp; omega
    have H2 := Lib.hid h2
    clear h2 hc
    go_wp2_with fail
    go_ret
    exact ⟨_, rfl, HBe.out, HLe.out, fun _ => rfl, fun h => absurd (by rw [HNe.out]; exact h) H2.out⟩
  case pos =>
   have Hn := Lib.hid (show cntV vs told ok late (k + 1) = cntV vs told ok late k + if (ok && (((sa vs k).toList == told.toList) && !bitB late k)) = true then 1 else 0 from rfl)
   have hc := cntV_le vs told ok late k
   have y2 := s2 _ hTr
   have y3 := s3 _ hTr
   have HCk := Lib.hid (HC2.out _ hTr k hlt)
   have hwn := wrap_in (n := (cntV vs told ok late k : Int) + 1) (by omega)
   cases ok
   case false =>
    have Hr := Lib.hid (show cntV vs told false late (k + 1) = cntV vs told false late k by rw [Hn.out, Bool.false_and, if_neg (by decide)]; rfl)
    generalize cntV vs told false late k = N at *
    clear Hn hc
    go_wp2_with fail
    go_roundw
    case rel => exact ⟨k + 1, by omega, by go_num, by rw [Hr.out], hTr⟩
    case measure => simp [intOf]; omega
   case true =>
    generalize hbb : (((sa vs k).toList == told.toList) && !bitB late k) = bb at *
    rw [Bool.true_and] at Hn
    generalize cntV vs told true late k = N at *
    clear hbb
    go_wp2_with fail
    refine HCk.out.mono ?_
    rintro e y ⟨rfl, hby⟩
    have hTy := hTn _ _ hTr hby
    clear hby HCk
    cases bb
    case false =>
     have Hr := Lib.hid (show cntV vs told true late (k + 1) = N by rw [Hn.out, if_neg (by decide)]; rfl)
     clear Hn hc
     go_wp2_with fail
     go_roundw
     case rel => exact ⟨k + 1, by omega, by go_num, by rw [Hr.out], hTy⟩
     case measure => simp [intOf]; omega
    case true =>
     have Hr := Lib.hid (show cntV vs told true late (k + 1) = N + 1 by rw [Hn.out, if_pos rfl])
     clear Hn hc
     go_wp2_with fail
     go_roundw
     case rel => exact ⟨k + 1, by omega, by go_num, by rw [Hr.out]; go_num, hTy⟩
     case measure => simp [intOf]; omega
end Go.Proofs.YtgkbalhkjolnmaaGreatDoor
