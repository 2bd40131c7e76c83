
/- CluE: a row of replicas of the call's own; walk of cluster.Own. -/
import Derived.Test.YtjkbaallfkjmhaaGreatCluD
import Derived.Deep.AppendLies
namespace Go.Proofs.YtjkbaallfkjmhaaGreat
open Go.RowKit
set_option linter.unusedVariables false
set_option linter.unusedSimpArgs false

theorem Tryz.infoRep : (Tryz.prog.info? 28).map (fun i => (i.zero, i.size, i.bytes)) = some (some (.agg #[.slice none 0 0, .slice none 0 0, .int .i64 0, .int .i64 0, .slice none 0 0, .slice none 0 0, .bool false]), 7, 120) := by kernel_rfl
/-- replicas in a row of the call's own; what they hold lies elsewhere, in S -/
def OwnC (S : Nat → Prop) (B : Nat) (w : World) (v : Value) (l : List Rep) : Prop :=
  ∃ vs : Nat → RV, (∀ b, S b → b < w.heap.size ∧ v.ownBlock ≠ some b) ∧ w.ownsRow B 28 7 v l.length (flat (fun i => repC (rep l i) (vs i)) l.length) ∧
    ∀ i, i < l.length → RepAt S w (rep l i) (vs i)
theorem OwnC.nil (S : Nat → Prop) (B : Nat) (w : World) (hS : ∀ b, S b → b < w.heap.size) : OwnC S B w (.slice none 0 0) [] :=
  ⟨fun _ => ⟨.nilFunc, .nilFunc, .nilFunc, .nilFunc⟩, fun b hb => ⟨hS b hb, by simp [Value.ownBlock]⟩, World.ownsRow_nil _ _ _ _, fun i hi => by simp at hi⟩
theorem OwnC.below {S : Nat → Prop} {B : Nat} {w w' : World} {v : Value} {l : List Rep} (h : OwnC S B w v l) (hb : Below w.heap.size w w') : OwnC S B w' v l := by
  obtain ⟨vs, h1, h2, h3⟩ := h
  exact ⟨vs, fun b hS => ⟨Nat.lt_of_lt_of_le (h1 b hS).1 hb.size, (h1 b hS).2⟩, own_below h2 hb, fun i hi => (h3 i hi).below hb⟩
theorem OwnC.upd {S T : Nat → Prop} {B : Nat} {w w' : World} {v : Value} {l : List Rep} (h : OwnC S B w v l) (hu : Upd T w w') (hS : ∀ b, S b → ¬ T b) (hv : ∀ g, v.ownBlock = some g → ¬ T g) : OwnC S B w' v l := by
  obtain ⟨vs, h1, h2, h3⟩ := h
  exact ⟨vs, fun b hb => ⟨Nat.lt_of_lt_of_le (h1 b hb).1 hu.size, (h1 b hb).2⟩, own_upd h2 hu hv, fun i hi => (h3 i hi).upd hu hS⟩
theorem OwnC.shape {S : Nat → Prop} {B : Nat} {w : World} {v : Value} {l : List Rep} (h : OwnC S B w v l) : ∃ a c, v = .slice a l.length c := let ⟨_, _, h2, _⟩ := h; own_shape h2
theorem OwnC.block {S : Nat → Prop} {B : Nat} {w : World} {v : Value} {l : List Rep} (h : OwnC S B w v l) {g : Nat} (hg : v.ownBlock = some g) : B ≤ g ∧ g < w.heap.size := let ⟨_, _, h2, _⟩ := h; h2.lt g hg
theorem OwnC.lt {S : Nat → Prop} {B : Nat} {w : World} {v : Value} {l : List Rep} (h : OwnC S B w v l) {b : Nat} (hb : S b) : b < w.heap.size := let ⟨_, h1, _, _⟩ := h; (h1 b hb).1
theorem OwnC.reps {S S' : Nat → Prop} {B : Nat} {w : World} {v : Value} {l : List Rep} (h : OwnC S B w v l) (hl : l.length * 120 ≤ 140737488351232) (hS : ∀ b, S b → S' b) (hB : ∀ b, v.ownBlock = some b → S' b) : RepsV S' w v l := by
  obtain ⟨vs, h1, h2, h3⟩ := h
  refine ⟨vs, own_sl h2 hB hl (fun i hi j u hu => ?_), fun i hi => (h3 i hi).weaken hS⟩
  exact flat_get (cs := fun i => repC (rep l i) (vs i)) (fun _ _ => rfl) i hi j u hu
theorem OwnC.any {S : Nat → Prop} {B : Nat} {w : World} {v : Value} {l : List Rep} (h : OwnC S B w v l) (hl : l.length * 120 ≤ 140737488351232) : RepsV (fun _ => True) w v l := h.reps hl (fun _ _ => trivial) (fun _ _ => trivial)
theorem OwnC.weaken {S S' : Nat → Prop} {B B' : Nat} {w : World} {v : Value} {l : List Rep} (h : OwnC S B w v l) (hS : ∀ b, S b → S' b) (hS' : ∀ b, S' b → b < w.heap.size ∧ v.ownBlock ≠ some b) (hB : B' ≤ B) : OwnC S' B' w v l := by
  obtain ⟨vs, h1, h2, h3⟩ := h
  exact ⟨vs, hS', own_mono h2 hB, fun i hi => (h3 i hi).weaken hS⟩
theorem OwnC.own {S : Nat → Prop} {B : Nat} {w : World} {v : Value} {l : List Rep} (h : OwnC S B w v l) {b : Nat} (hb : S b) : v.ownBlock ≠ some b := let ⟨_, h1, _, _⟩ := h; (h1 b hb).2
theorem OwnC.list {S : Nat → Prop} {B : Nat} {w : World} {v : Value} {l l' : List Rep} (e : l' = l) (h : OwnC S B w v l') : OwnC S B w v l := e ▸ h
/-- its cells are not frozen -/
theorem OwnC.free {S : Nat → Prop} {B : Nat} {w : World} {l : List Rep} {g o n c : Nat} (h : OwnC S B w (.slice (some ⟨g, o, none⟩) n c) l) (j : Nat) : w.frozen? ⟨g, j, none⟩ = false := by
  obtain ⟨vs, h1, ⟨_, h2⟩, h3⟩ := h
  rcases h2 with ⟨e, _⟩ | ⟨g', cap, cur, e, _, hh, _⟩
  · cases e
  · cases e; exact block_free hh

theorem rep_app_lt {l m : List Rep} {i : Nat} (h : i < l.length) : rep (l ++ m) i = rep l i := by
  unfold rep at_; simp only [List.getD_eq_getElem?_getD, List.getElem?_append_left h]
theorem rep_app_ge {l m : List Rep} {i : Nat} : rep (l ++ m) (l.length + i) = rep m i := by
  unfold rep at_; simp only [List.getD_eq_getElem?_getD]
  rw [List.getElem?_append_right (by omega), show l.length + i - l.length = i by omega]
theorem one_repC {S : Nat → Prop} {w : World} {r : Rep} {x : RV} (h : RepAt S w r x) : ∀ u ∈ repC r x, u.oneCell' = true := by
  obtain ⟨y, rfl⟩ := h.ra
  intro u hu
  simp only [repC, RA.rv, List.mem_cons, List.not_mem_nil, or_false] at hu
  rcases hu with rfl | rfl | rfl | rfl | rfl | rfl | rfl <;> rfl

theorem reps_news {S : Nat → Prop} {w : World} {a : Option Addr} {n cap : Nat} {l : List Rep} {lvs : Nat → RV} (h : Sl S w (.slice a n cap) 7 120 l.length (fun i => repC (rep l i) (lvs i))) (hn : 0 < l.length) :
    ∃ ad, a = some ad ∧ ∀ j u, (flat (fun i => repC (rep l i) (lvs i)) l.length)[j]? = some u → w.cell? (ad.add j) = some u := by
  obtain ⟨a', cap', hv, h1, h2, h3, h4⟩ := h
  cases hv
  obtain ⟨b, off, rfl, hb, hc⟩ := h4 hn
  refine ⟨_, rfl, fun j u hu => ?_⟩
  have hj : j < l.length * 7 := by
    rcases Nat.lt_or_ge j (l.length * 7) with h | h
    · exact h
    · rw [List.getElem?_eq_none (by rw [flat_length (sz := 7) fun _ _ => rfl]; exact h)] at hu; cases hu
  have hi' : j / 7 < l.length := by omega
  have hm : j % 7 < (repC (rep l (j / 7)) (lvs (j / 7))).length := by show j % 7 < 7; omega
  have e := flat_get (cs := fun i => repC (rep l i) (lvs i)) (sz := 7) (n := l.length) (fun _ _ => rfl) (j / 7) hi' (j % 7) _ (List.getElem?_eq_getElem hm)
  rw [show j / 7 * 7 + j % 7 = j by omega, hu] at e
  have := hc (j / 7) hi' (j % 7) u (by rw [List.getElem?_eq_getElem hm]; exact e.symm)
  rw [show (⟨b, off, none⟩ : Addr).add j = ⟨b, off + j, none⟩ by unfold Addr.add; split <;> simp_all]
  rw [show off + j = off + j / 7 * 7 + j % 7 by omega]; exact this

theorem append_reps {B : Nat} {w : World} {v mv : Value} {l more : List Rep} {S S1 : Nat → Prop} (ty : TypeId) (hG : OwnC S1 B w v l) (h : RepsV S w mv more) (hS : ∀ b, S b → b < w.heap.size ∧ v.ownBlock ≠ some b)
    (hl : (l.length + more.length) * 120 ≤ 140737488351232) (hB : B ≤ w.heap.size) :
    ∃ v' x, (Builtin.append_ #[38, 38] ty #[v, mv]).run Tryz.prog w = .ok v' x ∧ OwnC (fun b => S1 b ∨ S b) B x v' (l ++ more) ∧ Upd (fun b => v.ownBlock = some b) w x := by
  obtain ⟨i0, hi, hz0, hz1, hz2⟩ := info_parts Tryz.infoRep
  have hG' := hG
  obtain ⟨lvs1, h1, hown, h3⟩ := hG
  obtain ⟨lvs, hsl, h5⟩ := h
  have hsl' := hsl
  obtain ⟨a, cap, rfl, hc1, hc2, hc3, _⟩ := hsl'
  by_cases h0 : more.length = 0
  · obtain rfl : more = [] := List.length_eq_zero_iff.1 h0
    obtain ⟨base, sc, hv, hle⟩ : ∃ base sc, v = .slice base l.length sc ∧ l.length ≤ sc := by
      rcases hown.2 with ⟨rfl, hn⟩ | ⟨g, c, cur, rfl, _, _, hn, _⟩
      · exact ⟨none, 0, by rw [hn], by omega⟩
      · exact ⟨_, _, rfl, hn⟩
    subst hv
    refine ⟨_, w, run_append_nothing _ 38 38 ty 28 i0 Tryz.underlying38 hi base l.length sc hle _
      ⟨.inl ⟨_, Tryz.underlying38⟩, fun w' => by simp [Builtin.lenOf], by cases a <;> simp [Builtin.firstCells] <;> rfl, by cases a <;> simp [Builtin.firstCells] <;> rfl, by simp, by simp⟩, ?_, Upd.refl _ _⟩
    rw [List.append_nil]; exact hG'.weaken (fun _ h => .inl h) (fun b hb => by rcases hb with hb | hb; exact h1 b hb; exact hS b hb) (Nat.le_refl _)
  · obtain ⟨ad, rfl, hnews⟩ := reps_news hsl (by omega)
    obtain ⟨g, c, x, hr, ho, hg, hor, hlt⟩ := run_append_lies (P := Tryz.prog) w 38 ty B 28 i0 _ 7 120 Tryz.underlying38 hi hz0 hz1 hz2 rfl (by omega) v l.length _ hown ad more.length cap
      (flat (fun i => repC (rep more i) (lvs i)) more.length) (flat_length fun _ _ => rfl) hnews (one_flat fun i hi => one_repC (h5 i hi)) (by omega) (by unfold maxLen; omega) (by omega) hB _ rfl
    have hu : Upd (fun b => v.ownBlock = some b) w x := Upd.grown (Upd.refl _ _) hg (fun k hk _ => hk)
    refine ⟨_, x, hr, ⟨fun i => if i < l.length then lvs1 i else lvs (i - l.length), fun b hb => ?_, ?_, fun i hi => ?_⟩, hu⟩
    · have hb' : b < w.heap.size ∧ v.ownBlock ≠ some b := by rcases hb with hb | hb; exact h1 b hb; exact hS b hb
      refine ⟨Nat.lt_of_lt_of_le hb'.1 hu.size, fun e => ?_⟩
      have e' : g = b := by simpa [Value.ownBlock] using e
      rcases hor with h | h
      · exact hb'.2 (by rw [h, e'])
      · omega
    · rw [List.length_append, flat_add]
      have e1 : flat (fun i => repC (rep (l ++ more) i) (if i < l.length then lvs1 i else lvs (i - l.length))) l.length = flat (fun i => repC (rep l i) (lvs1 i)) l.length :=
        flat_congr fun i hi => by rw [rep_app_lt hi, if_pos hi]
      have e2 : flat (fun j => repC (rep (l ++ more) (l.length + j)) (if l.length + j < l.length then lvs1 (l.length + j) else lvs (l.length + j - l.length))) more.length = flat (fun i => repC (rep more i) (lvs i)) more.length :=
        flat_congr fun i hi => by rw [rep_app_ge, if_neg (by omega), show l.length + i - l.length = i by omega]
      rw [e1, e2]; exact ho
    · rw [List.length_append] at hi
      by_cases hlt : i < l.length
      · simp only [rep_app_lt hlt, if_pos hlt]
        exact ((h3 i hlt).upd hu (fun b hb e => (h1 b hb).2 e)).weaken fun _ h => .inl h
      · obtain ⟨j, rfl⟩ : ∃ j, i = l.length + j := ⟨i - l.length, by omega⟩
        simp only [rep_app_ge, if_neg hlt, show l.length + j - l.length = j by omega]
        exact ((h5 j (by omega)).upd hu (fun b hb e => (hS b hb).2 e)).weaken fun _ h => .inr h

/-- one element of a flat row is written -/
theorem flat_put {cs : Nat → List Value} {ys : List Value} {sz n i : Nat} (h : ∀ j, j < n → (cs j).length = sz) (hi : i < n) :
    (flat cs n).take (i * sz) ++ ys ++ (flat cs n).drop (i * sz + sz) = flat (fun j => if j = i then ys else cs j) n := by
  obtain ⟨k, rfl⟩ : ∃ k, n = i + (1 + k) := ⟨n - i - 1, by omega⟩
  have hl : (flat cs i).length = i * sz := flat_length fun j hj => h j (by omega)
  have hl2 : (flat cs i ++ cs i).length = i * sz + sz := by rw [List.length_append, hl, h i (by omega)]
  have e1 : flat cs (i + (1 + k)) = flat cs i ++ (cs i ++ flat (fun j => cs (i + (1 + j))) k) := by rw [flat_add, flat_one]; rfl
  rw [e1, show (flat cs i ++ (cs i ++ flat (fun j => cs (i + (1 + j))) k)).take (i * sz) = flat cs i by rw [← hl, List.take_left]]
  rw [← List.append_assoc (flat cs i), ← hl2, List.drop_left]
  rw [flat_add, flat_one]
  have e2 : flat (fun j => if j = i then ys else cs j) i = flat cs i := flat_congr fun j hj => by rw [if_neg (by omega)]
  have e3 : flat (fun j => (fun j => if i + j = i then ys else cs (i + j)) (1 + j)) k = flat (fun j => cs (i + (1 + j))) k := flat_congr fun j hj => by
    show (if i + (1 + j) = i then ys else cs (i + (1 + j))) = cs (i + (1 + j))
    rw [if_neg (by omega)]
  rw [e2, e3]
  simp
theorem rep_set {l : List Rep} {i j : Nat} {r : Rep} (hj : j < l.length) : rep (l.set i r) j = if j = i then r else rep l j := by
  unfold rep at_
  simp only [List.getD_eq_getElem?_getD, List.getElem?_set]
  by_cases e : i = j
  · subst e; simp [hj]
  · rw [if_neg e, if_neg (fun h => e h.symm)]
theorem take_put {α : Type} {A ys : List α} {a m n : Nat} (hy : ys.length = m) (h : a + m ≤ n) (hn : n ≤ A.length) : (A.take a ++ ys ++ A.drop (a + m)).take n = (A.take n).take a ++ ys ++ (A.take n).drop (a + m) := by
  obtain ⟨k, rfl⟩ : ∃ k, n = a + m + k := ⟨n - a - m, by omega⟩
  have h1 : (A.take a ++ ys).length = a + m := by rw [List.length_append, List.length_take, hy]; omega
  have e1 : (A.take a ++ ys ++ A.drop (a + m)).take (a + m + k) = A.take a ++ ys ++ (A.drop (a + m)).take k := by
    rw [← h1, List.take_length_add_append]
  rw [e1, List.take_take, Nat.min_eq_left (by omega), List.drop_take, show a + m + k - (a + m) = k by omega]
/-- one replica is written -/
theorem OwnC.set {S S2 : Nat → Prop} {B : Nat} {w : World} {l : List Rep} {r : Rep} {x : RV} {g n c i : Nat} (h : OwnC S B w (.slice (some ⟨g, 0, none⟩) n c) l) (hi : i < l.length) (hr : RepAt S2 w r x)
    (h2 : ∀ b, S2 b → b < w.heap.size ∧ b ≠ g) :
    OwnC (fun b => S b ∨ S2 b) B (w.setCells g (i * 7) (repC r x)) (.slice (some ⟨g, 0, none⟩) n c) (l.set i r) ∧ Upd (fun b => b = g) w (w.setCells g (i * 7) (repC r x)) := by
  have hu := setCells_frame g (repC r x) (i * 7) w
  refine ⟨?_, hu⟩
  obtain ⟨vs, h1, ⟨hxl, hown⟩, h3⟩ := h
  rcases hown with ⟨e, _⟩ | ⟨g', cap, cur, e, hBg, hg, hnc, hcm, hcs, hxs⟩
  · cases e
  cases e
  have hcl : cur.toList.length = c * 7 := by simp [hcs]
  have hw := setCells_heap g 28 (repC r x) (i * 7) cur w hg (by rw [hcs]; show i * 7 + 7 ≤ _; omega)
  refine ⟨fun j => if j = i then x else vs j, fun b hb => ?_, ⟨?_, .inr ⟨g, c, _, by rw [List.length_set], hBg, hw, by rw [List.length_set]; exact hnc, hcm, ?_, ?_⟩⟩, fun j hj => ?_⟩
  · rcases hb with hb | hb
    · exact ⟨Nat.lt_of_lt_of_le (h1 b hb).1 hu.size, (h1 b hb).2⟩
    · exact ⟨Nat.lt_of_lt_of_le (h2 b hb).1 hu.size, fun e => (h2 b hb).2 (by simpa [Value.ownBlock, eq_comm] using e)⟩
  · exact flat_length fun _ _ => rfl
  · simp only [List.size_toArray, List.length_append, List.length_take, List.length_drop, hcl]; show min (i * 7) (c * 7) + 7 + (c * 7 - (i * 7 + 7)) = c * 7; omega
  · rw [List.length_set]
    have e1 : flat (fun j => repC (rep (l.set i r) j) (if j = i then x else vs j)) l.length = flat (fun j => if j = i then repC r x else repC (rep l j) (vs j)) l.length :=
      flat_congr fun j hj => by
        rw [rep_set hj]
        by_cases e : j = i
        · rw [if_pos e, if_pos e, if_pos e]
        · rw [if_neg e, if_neg e, if_neg e]
    rw [e1, ← flat_put (cs := fun j => repC (rep l j) (vs j)) (ys := repC r x) (sz := 7) (n := l.length) (i := i) (fun _ _ => rfl) hi, ← hxs]
    simp only [List.toList_toArray]
    exact take_put (ys := repC r x) (A := cur.toList) (a := i * 7) (m := 7) (n := l.length * 7) rfl (by omega) (by rw [hcl]; omega)
  · rw [List.length_set] at hj
    rw [rep_set hj]
    by_cases e : j = i
    · subst e
      simp only [if_true]
      exact (RepIs.upd hr hu (fun b hb e => (h2 b hb).2 e)).weaken fun _ h => .inr h
    · simp only [if_neg e]
      exact (RepIs.upd (h3 j hj) hu (fun b hb e => (h1 b hb).2 (by subst e; rfl))).weaken fun _ h => .inl h

/-- a new block of one replica -/
theorem reps_new {S : Nat → Prop} (w : World) (r : Rep) (x : RV) (t : TypeId) (N : Nat) (hN : N = w.heap.size) (h : RepAt S w r x) :
    RepsV (fun b => S b ∨ b = N) (w.alloc (.cells (repC r x).toArray t)) (.slice (some ⟨N, 0, none⟩) 1 1) [r] := by
  subst hN
  refine ⟨fun _ => x, ⟨some ⟨w.heap.size, 0, none⟩, 1, rfl, Nat.le_refl _, by omega, by simp, fun _ => ⟨w.heap.size, 0, rfl, .inr rfl, fun i hi j u hu => ?_⟩⟩, fun i hi => ?_⟩
  · obtain rfl : i = 0 := by simp at hi; omega
    refine block_cell (heap_alloc_new w _) ?_
    have hu' : (repC r x)[j]? = some u := hu
    simpa using hu'
  · obtain rfl : i = 0 := by simp at hi; omega
    exact (RepIs.below h ((Below.refl _ _).alloc (Nat.le_refl _) _)).weaken fun _ h => .inl h
theorem RepIs.lt {S : Nat → Prop} {w : World} {r : Rep} {sv rv ov uv : Value} (h : RepIs S w r sv rv ov uv) : RepIs (fun b => S b ∧ b < w.heap.size) w r sv rv ov uv :=
  ⟨h.store.lt, h.refs.lt, h.objs.lt, h.upds.lt, h.gen, h.phase⟩
theorem OwnC.shape3 {S : Nat → Prop} {B : Nat} {w : World} {v : Value} {l : List Rep} (h : OwnC S B w v l) : ∃ a n c, v = .slice a n c := let ⟨a, c, e⟩ := h.shape; ⟨a, _, c, e⟩
/-- a row of the call's own, all new -/
def OwnF (B : Nat) (w : World) (v : Value) (l : List Rep) : Prop := ∃ F : Nat → Prop, OwnC F B w v l ∧ ∀ b, F b → B ≤ b
theorem take_next_rep {l : List Rep} {k : Nat} (h : k < l.length) : l.take (k + 1) = l.take k ++ [rep l k] := by
  rw [List.take_succ_eq_append_getElem h, rep_lt h]

set_option maxRecDepth 100000 in
set_option maxHeartbeats 4000000 in
theorem cluOwn_any (l : List Rep) (v : Value) (S : Nat → Prop) (w : World) (h : RepsV S w v l) :
    Calls Tryz.prog 31 #[.agg #[v]] w fun e w' => ∃ v', e = .returned (.agg #[v']) ∧ OwnF w.heap.size w' v' l ∧ Below w.heap.size w w' := by
  obtain ⟨a, n, cap, fr, HN, rfl, h1, h2, h3, h4, h5⟩ := h.open
  clear h
  have HL := Lib.hid (show l.take n = l by rw [HN.out]; exact List.take_length)
  have HT := Lib.hid (fun k (hk : k < n) => take_next_rep (l := l) (k := k) (by rw [← HN.out]; exact hk))
  have HTl := Lib.hid (fun k => show (l.take k).length ≤ k by rw [List.length_take]; omega)
  obtain ⟨w3, hw3⟩ : ∃ w3, w3 = ((w.alloc (.cells #[.slice a n cap] 44)).alloc (.cells #[.slice none 0 0] 44)).alloc (.cells #[.slice none 0 0] 44) := ⟨_, rfl⟩
  have hs3 : w3.heap.size = w.heap.size + 3 := by rw [hw3]; simp
  have hb3 : Below w.heap.size w w3 := by rw [hw3]; exact foldl_below [_, _, _] w
  have hcl3 := cls_of w w3 (w.heap.size + 2) (by omega) (by omega) hb3
  have g0 : w3.heap[w.heap.size]? = some (.cells #[.slice a n cap] 44 (0, 0)) := by rw [hw3]; exact foldl_get [_, _, _] w 0 _ rfl
  have g1 : w3.heap[w.heap.size + 1]? = some (.cells #[.slice none 0 0] 44 (0, 0)) := by rw [hw3]; exact foldl_get [_, _, _] w 1 _ rfl
  have g2 : w3.heap[w.heap.size + 2]? = some (.cells #[.slice none 0 0] 44 (0, 0)) := by rw [hw3]; exact foldl_get [_, _, _] w 2 _ rfl
  obtain ⟨R, hR⟩ : ∃ R : World → Prop, R = fun x => Below (w.heap.size + 2) w3 x := ⟨_, rfl⟩
  rw [← hR] at hcl3
  have hRb := hcl3.below
  have hRn := hcl3.next
  have hR3 : In R w3 := by rw [hR]; exact Below.refl _ _
  have HRu := Lib.hid (fun x y (T : Nat → Prop) (hx : In R x) (hu : Upd T x y) (hT : ∀ b, T b → w.heap.size + 2 ≤ b) => show In R y by rw [hR] at hx ⊢; exact Below.trans (hx : Below _ _ _) (hu.below (by have := Below.size (hx : Below _ _ _); omega) hT))
  have HRs := Lib.hid (fun x (hx : In R x) => show w.heap.size + 3 ≤ x.heap.size by rw [hR] at hx; have := Below.size (hx : Below _ _ _); omega)
  have c0 : ∀ x, In R x → x.cell? ⟨w.heap.size, 0, none⟩ = some (.slice a n cap) := fun x hx => by rw [hR] at hx; exact block_cell (j := 0) ((Below.block (hx : Below _ _ _) _ (by omega)).trans g0) rfl
  have HZ := Lib.hid (fun x (hx : In R x) => show x.heap[w.heap.size + 1]? = some (.cells #[.slice none 0 0] 44 (0, 0)) by rw [hR] at hx; exact (Below.block (hx : Below _ _ _) _ (by omega)).trans g1)
  have cc := c0 _ hR3
  have HI0 := Lib.hid (show ∃ va vn vc, OwnF (w.heap.size + 3) w3 (.slice va vn vc) (l.take 0) ∧ w3.heap[w.heap.size + 2]? = some (.cells #[.slice va vn vc] 44 (0, 0)) from ⟨_, _, _, ⟨fun _ => False, OwnC.nil _ _ _ (fun _ h => h.elim), fun _ h => h.elim⟩, g2⟩)
  clear hR hcl3 g0 g1 g2 hs3 hb3
  have Hw3 := Lib.hid hw3
  rw [hw3] at cc
  clear hw3
  go_enter Tryz.func31, Tryz.ntmps31
  go_wp2_with fail
  rw [← Hw3.out]
  clear cc
  go_loopw [9] (fun i wr => ∃ k : Nat, k ≤ n ∧ i = .int .i64 k ∧ Hid (∃ va vn vc, OwnF (w.heap.size + 3) wr (.slice va vn vc) (l.take k) ∧ wr.heap[w.heap.size + 2]? = some (.cells #[.slice va vn vc] 44 (0, 0))) ∧ In R wr) (fun i _ => n - (intOf i).toNat)
  case atStart => exact ⟨0, by omega, rfl, HI0.out, hR3⟩
  case round =>
    obtain ⟨k, hk, rfl, HI, hRw⟩ := hrel
    clear hR3 HI0
    obtain ⟨va, vn, vc, ⟨F, hO, hF⟩, hJ⟩ := HI.out
    have hsw := HRs.out _ hRw
    by_cases hlt : k < n
    · obtain ⟨b, off, rfl, hb, k0, k1, k2, k3, k4, k5, k6⟩ := h4 (by omega)
      have x0 := k0 k wr hlt (hRb _ hRw)
      have x1 := k1 k wr hlt (hRb _ hRw)
      have x2 := k2 k wr hlt (hRb _ hRw)
      have x3 := k3 k wr hlt (hRb _ hRw)
      have x4 := k4 k wr hlt (hRb _ hRw)
      have x5 := k5 k wr hlt (hRb _ hRw)
      have x6 := k6 k wr hlt (hRb _ hRw)
      obtain ⟨Q, hQ, hQ1, hy⟩ := cls_box wr #[.slice (fr k).sa (rep l k).store.length (fr k).sc, .slice (fr k).ra (rep l k).refs.length (fr k).rc, .int .i64 (rep l k).gen, .int .i64 (rep l k).phase, .slice (fr k).oa (rep l k).pend.objects.length (fr k).oc, .slice (fr k).ua (rep l k).pend.updates.length (fr k).uc, .bool (rep l k).pend.force] 28
      have hQb := hQ.below
      have hQn := hQ.next
      have hQR : ∀ x, In Q x → In R x := fun x hx => hRn _ _ hRw (hQb x hx)
      have HS : ∀ x, In Q x → (fun x : World => x.cell? ⟨wr.heap.size, 0, none⟩ = some (.slice (fr k).sa (rep l k).store.length (fr k).sc) ∧ x.cell? ⟨wr.heap.size, 1, none⟩ = some (.slice (fr k).ra (rep l k).refs.length (fr k).rc) ∧ x.cell? ⟨wr.heap.size, 2, none⟩ = some (.int .i64 (rep l k).gen) ∧ x.cell? ⟨wr.heap.size, 3, none⟩ = some (.int .i64 (rep l k).phase) ∧ x.cell? ⟨wr.heap.size, 4, none⟩ = some (.slice (fr k).oa (rep l k).pend.objects.length (fr k).oc) ∧ x.cell? ⟨wr.heap.size, 5, none⟩ = some (.slice (fr k).ua (rep l k).pend.updates.length (fr k).uc) ∧ x.cell? ⟨wr.heap.size, 6, none⟩ = some (.bool (rep l k).pend.force)) x := fun x hx => ⟨hy 0 _ rfl x hx, hy 1 _ rfl x hx, hy 2 _ rfl x hx, hy 3 _ rfl x hx, hy 4 _ rfl x hx, hy 5 _ rfl x hx, hy 6 _ rfl x hx⟩
      have HO := Lib.hid (fun x (hx : In Q x) => hO.below (hQb _ hx))
      have HJ := Lib.hid (fun x (hx : In Q x) => ((hQb _ hx).block _ (show w.heap.size + 2 < wr.heap.size by omega)).trans hJ)
      have HC := Lib.hid (fun x (hx : In Q x) => repOwn_any (rep l k) _ _ _ _ _ x ((h5 k hlt).below (hRb _ (hQR _ hx))))
      simp only [repV] at HC
      have hi1 : (0 : Int) ≤ (k : Int) := by omega
      have hi2 : (k : Int) < (n : Int) := by omega
      have Hob := Lib.hid (fun g (hg : (Value.slice va vn vc).ownBlock = some g) => hO.block hg)
      have HF := Lib.hid hF
      have hlk := HTl.out k
      have HTk := Lib.hid (HT.out k hlt)
      clear hy h4 h5 hO hJ hF HT HL c0 k0 k1 k2 k3 k4 k5 k6
      obtain ⟨wo, rfl⟩ : ∃ wo : World, wo = wr := ⟨_, rfl⟩
      go_wp2_with fail
      refine wp_region_held (S := (fun x : World => x.cell? ⟨wo.heap.size, 0, none⟩ = some (.slice (fr k).sa (rep l k).store.length (fr k).sc) ∧ x.cell? ⟨wo.heap.size, 1, none⟩ = some (.slice (fr k).ra (rep l k).refs.length (fr k).rc) ∧ x.cell? ⟨wo.heap.size, 2, none⟩ = some (.int .i64 (rep l k).gen) ∧ x.cell? ⟨wo.heap.size, 3, none⟩ = some (.int .i64 (rep l k).phase) ∧ x.cell? ⟨wo.heap.size, 4, none⟩ = some (.slice (fr k).oa (rep l k).pend.objects.length (fr k).oc) ∧ x.cell? ⟨wo.heap.size, 5, none⟩ = some (.slice (fr k).ua (rep l k).pend.updates.length (fr k).uc) ∧ x.cell? ⟨wo.heap.size, 6, none⟩ = some (.bool (rep l k).pend.force))) (by kernel_rfl) ?_
      change wpAnyH _ _ _ _ _ _ _ _ (World.drew _)
      have hC0 := hQ.drew _ hQ1
      generalize (wo.alloc _).drew = x0 at hC0 ⊢
      clear hQ1
      have hS0 := HS _ hC0
      refine wpAnyH_take (i := 0) (v := .pointer (some ⟨w.heap.size + 2, 0, none⟩)) rfl (by kernel_rfl) (by kernel_rfl) (by kernel_rfl) (fun _ _ _ h => h) (Or.inl ⟨by rfl, fun w hSw => ?_⟩) hS0 ?_
      · go_simp
      simp only [Act.put, List.setIfInBounds_toArray, List.set_cons_zero, List.set_cons_succ]
      refine wpAnyH_take (i := 2) (v := .agg #[.slice (fr k).sa (rep l k).store.length (fr k).sc, .slice (fr k).ra (rep l k).refs.length (fr k).rc, .int .i64 (rep l k).gen, .int .i64 (rep l k).phase, .slice (fr k).oa (rep l k).pend.objects.length (fr k).oc, .slice (fr k).ua (rep l k).pend.updates.length (fr k).uc, .bool (rep l k).pend.force]) rfl (by kernel_rfl) (by kernel_rfl) (by kernel_rfl) (fun _ _ _ h => h) (Or.inl ⟨by rfl, fun w hSw => ?_⟩) hS0 ?_
      · obtain ⟨y0, y1, y2, y3, y4, y5, y6⟩ := hSw; go_simp
      simp only [Act.put, List.setIfInBounds_toArray, List.set_cons_zero, List.set_cons_succ]
      refine wpAnyH_all (rs := [1, 3]) (by kernel_rfl) (by simp) (fun j hj => ?_)
      rcases List.mem_cons.1 hj with rfl | hj
      · skip
        refine Or.inl ?_
        have cJw := block_cell (j := 0) (HJ.out _ hC0) rfl
        go_simp
        clear cJw
        refine wpAnyH_all (rs := [3]) (by kernel_rfl) (by simp) (fun j hj => ?_)
        obtain rfl : j = 3 := by simpa using hj
        refine Or.inl ?_
        go_wp2_with fail
        refine (HC.out _ hC0).mono ?_
        rintro e x1 ⟨sv1, rv1, ov1, uv1, rfl, hv, hb1⟩
        have hC1 := hQn _ _ hC0 hb1
        have hs0 := (hQb _ hC0).size
        have hs1 := hb1.size
        have Hv := Lib.hid hv
        obtain ⟨sa1, sc1, rfl⟩ := hv.store.vshape
        obtain ⟨⟨ra1, rc1⟩, rfl⟩ := hv.refs.shape
        obtain ⟨oa1, oc1, rfl⟩ := hv.objs.vshape
        obtain ⟨⟨ua1, uc1⟩, rfl⟩ := hv.upds.shape
        have hS1 := HS _ hC1
        clear hv hb1
        simp only [repV]
        go_simp
        refine wpAnyH_all (rs := [4]) (by kernel_rfl) (by simp) (fun j hj => ?_)
        obtain rfl : j = 4 := by simpa using hj
        refine Or.inl ?_
        have hC2 := hQ.alloc _ (.cells #[.slice sa1 (rep l k).store.length sc1, .slice ra1 (rep l k).refs.length rc1, .int .i64 (rep l k).gen, .int .i64 (rep l k).phase, .slice oa1 (rep l k).pend.objects.length oc1, .slice ua1 (rep l k).pend.updates.length uc1, .bool (rep l k).pend.force] 28) hC1
        have hS2 := HS _ hC2
        have hrow := Lib.hid (reps_new x1 (rep l k) ⟨.slice sa1 (rep l k).store.length sc1, .slice ra1 (rep l k).refs.length rc1, .slice oa1 (rep l k).pend.objects.length oc1, .slice ua1 (rep l k).pend.updates.length uc1⟩ 28 x1.heap.size rfl (RepIs.lt Hv.out))
        go_simp
        refine wpAnyH_all (rs := [5]) (by kernel_rfl) (by simp) (fun j hj => ?_)
        obtain rfl : j = 5 := by simpa using hj
        refine Or.inl ?_
        obtain ⟨v4, x4, hr4, hO4, hu4⟩ := append_reps 38 (HO.out _ hC2) hrow.out (fun b hb => ⟨by rcases hb with hb | hb; have := hb.2; simp; omega; simp; omega, fun e => by have := (Hob.out _ e).2; rcases hb with hb | hb; have := hb.1; omega; omega⟩) (by simp; omega) (by simp; omega)
        obtain ⟨a4, n4, c4, rfl⟩ := hO4.shape3
        refine wp_append_run (.tmp 14) (.tmp 17) 38 (by rfl) _ _ _ (by rfl) (by rfl) hr4 ?_
        simp only [Act.put, List.setIfInBounds_toArray, List.set_cons_zero, List.set_cons_succ]
        have hjo : ∀ b, (Value.slice va vn vc).ownBlock = some b → w.heap.size + 3 ≤ b ∧ b < wo.heap.size := fun b hb => Hob.out b hb
        have hS4 : (fun x : World => x.cell? ⟨wo.heap.size, 0, none⟩ = some (.slice (fr k).sa (rep l k).store.length (fr k).sc) ∧ x.cell? ⟨wo.heap.size, 1, none⟩ = some (.slice (fr k).ra (rep l k).refs.length (fr k).rc) ∧ x.cell? ⟨wo.heap.size, 2, none⟩ = some (.int .i64 (rep l k).gen) ∧ x.cell? ⟨wo.heap.size, 3, none⟩ = some (.int .i64 (rep l k).phase) ∧ x.cell? ⟨wo.heap.size, 4, none⟩ = some (.slice (fr k).oa (rep l k).pend.objects.length (fr k).oc) ∧ x.cell? ⟨wo.heap.size, 5, none⟩ = some (.slice (fr k).ua (rep l k).pend.updates.length (fr k).uc) ∧ x.cell? ⟨wo.heap.size, 6, none⟩ = some (.bool (rep l k).pend.force)) x4 := ⟨hu4.cell hS2.1 (fun e => absurd (hjo _ e).2 (Nat.lt_irrefl _)), hu4.cell hS2.2.1 (fun e => absurd (hjo _ e).2 (Nat.lt_irrefl _)), hu4.cell hS2.2.2.1 (fun e => absurd (hjo _ e).2 (Nat.lt_irrefl _)), hu4.cell hS2.2.2.2.1 (fun e => absurd (hjo _ e).2 (Nat.lt_irrefl _)), hu4.cell hS2.2.2.2.2.1 (fun e => absurd (hjo _ e).2 (Nat.lt_irrefl _)), hu4.cell hS2.2.2.2.2.2.1 (fun e => absurd (hjo _ e).2 (Nat.lt_irrefl _)), hu4.cell hS2.2.2.2.2.2.2 (fun e => absurd (hjo _ e).2 (Nat.lt_irrefl _))⟩
        have hJ4 := hu4.blk (HJ.out _ hC2) (fun e => by have := (hjo _ e).1; omega)
        have hR4 := HRu.out _ _ _ (hQR _ hC2) hu4 (fun b hb => by have := (hjo _ hb).1; omega)
        have HO4 := Lib.hid hO4
        refine ⟨hS4, ?_⟩
        clear hO4 hr4 hu4 hjo hrow
        refine wpAnyH_all (rs := [6]) (by kernel_rfl) (by simp) (fun j hj => ?_)
        obtain rfl : j = 6 := by simpa using hj
        refine Or.inl ?_
        go_simp
        first | refine ⟨hS4, ?_⟩ | skip
        refine wpAnyH_all (rs := [7]) (by kernel_rfl) (by simp) (fun j hj => ?_)
        obtain rfl : j = 7 := by simpa using hj
        refine Or.inl ?_
        have cJ := block_cell (j := 0) hJ4 rfl
        have fJ := block_free (j := 0) hJ4
        go_wp2_with fail
        first | refine ⟨hS4, by kernel_rfl, ?_⟩ | refine ⟨by kernel_rfl, ?_⟩
        have hu5 : Upd (fun b => b = w.heap.size + 2) x4 (x4.setCell ⟨w.heap.size + 2, 0, none⟩ (.slice a4 n4 c4)) := (Upd.refl (fun b => b = w.heap.size + 2) x4).setCell (p := ⟨w.heap.size + 2, 0, none⟩) (fun _ => rfl) _
        have hJ5 : (x4.setCell ⟨w.heap.size + 2, 0, none⟩ (.slice a4 n4 c4)).heap[w.heap.size + 2]? = some (.cells #[.slice a4 n4 c4] 44 (0, 0)) := block_setCell (j := 0) hJ4 (.slice a4 n4 c4)
        have hR5 := HRu.out _ _ _ hR4 hu5 (fun b hb => by omega)
        have hge : ∀ b, (F b ∨ ((x0.heap.size ≤ b ∧ b < x1.heap.size) ∨ b = x1.heap.size)) → w.heap.size + 3 ≤ b := fun b hb => by rcases hb with hb | hb | hb; exact HF.out b hb; omega; omega
        have hO5 : OwnF (w.heap.size + 3) _ (.slice a4 n4 c4) (l.take (k + 1)) := ⟨_, OwnC.list HTk.out.symm (HO4.out.upd hu5 (fun b hb e => by have := hge b hb; omega) (fun g hg e => by have := (HO4.out.block hg).1; omega)), hge⟩
        generalize x4.setCell ⟨w.heap.size + 2, 0, none⟩ (.slice a4 n4 c4) = x5 at *
        have HI5 := Lib.hid (show ∃ va vn vc, OwnF (w.heap.size + 3) x5 (.slice va vn vc) (l.take (k + 1)) ∧ x5.heap[w.heap.size + 2]? = some (.cells #[.slice va vn vc] 44 (0, 0)) from ⟨_, _, _, hO5, hJ5⟩)
        clear hO5 hJ5 hge hu5 HO4 cJ fJ hS4 hJ4 hS0 hS1 hS2 HS HO HJ HC Hv HI
        go_wp2_with fail
        go_roundw
        case rel => exact ⟨k + 1, by omega, by go_num, HI5.out, hR5⟩
        case measure => simp [intOf]; omega
      · skip
        obtain rfl : j = 3 := by simpa using hj
        refine Or.inl ?_
        go_wp2_with fail
        refine (HC.out _ hC0).mono ?_
        rintro e x1 ⟨sv1, rv1, ov1, uv1, rfl, hv, hb1⟩
        have hC1 := hQn _ _ hC0 hb1
        have hs0 := (hQb _ hC0).size
        have hs1 := hb1.size
        have Hv := Lib.hid hv
        obtain ⟨sa1, sc1, rfl⟩ := hv.store.vshape
        obtain ⟨⟨ra1, rc1⟩, rfl⟩ := hv.refs.shape
        obtain ⟨oa1, oc1, rfl⟩ := hv.objs.vshape
        obtain ⟨⟨ua1, uc1⟩, rfl⟩ := hv.upds.shape
        have hS1 := HS _ hC1
        clear hv hb1
        simp only [repV]
        go_simp
        refine wpAnyH_all (rs := [1, 4]) (by kernel_rfl) (by simp) (fun j hj => ?_)
        rcases List.mem_cons.1 hj with rfl | hj
        · skip
          refine Or.inl ?_
          have cJw := block_cell (j := 0) (HJ.out _ hC1) rfl
          go_simp
          clear cJw
          refine wpAnyH_all (rs := [4]) (by kernel_rfl) (by simp) (fun j hj => ?_)
          obtain rfl : j = 4 := by simpa using hj
          refine Or.inl ?_
          have hC2 := hQ.alloc _ (.cells #[.slice sa1 (rep l k).store.length sc1, .slice ra1 (rep l k).refs.length rc1, .int .i64 (rep l k).gen, .int .i64 (rep l k).phase, .slice oa1 (rep l k).pend.objects.length oc1, .slice ua1 (rep l k).pend.updates.length uc1, .bool (rep l k).pend.force] 28) hC1
          have hS2 := HS _ hC2
          have hrow := Lib.hid (reps_new x1 (rep l k) ⟨.slice sa1 (rep l k).store.length sc1, .slice ra1 (rep l k).refs.length rc1, .slice oa1 (rep l k).pend.objects.length oc1, .slice ua1 (rep l k).pend.updates.length uc1⟩ 28 x1.heap.size rfl (RepIs.lt Hv.out))
          go_simp
          refine wpAnyH_all (rs := [5]) (by kernel_rfl) (by simp) (fun j hj => ?_)
          obtain rfl : j = 5 := by simpa using hj
          refine Or.inl ?_
          obtain ⟨v4, x4, hr4, hO4, hu4⟩ := append_reps 38 (HO.out _ hC2) hrow.out (fun b hb => ⟨by rcases hb with hb | hb; have := hb.2; simp; omega; simp; omega, fun e => by have := (Hob.out _ e).2; rcases hb with hb | hb; have := hb.1; omega; omega⟩) (by simp; omega) (by simp; omega)
          obtain ⟨a4, n4, c4, rfl⟩ := hO4.shape3
          refine wp_append_run (.tmp 14) (.tmp 17) 38 (by rfl) _ _ _ (by rfl) (by rfl) hr4 ?_
          simp only [Act.put, List.setIfInBounds_toArray, List.set_cons_zero, List.set_cons_succ]
          have hjo : ∀ b, (Value.slice va vn vc).ownBlock = some b → w.heap.size + 3 ≤ b ∧ b < wo.heap.size := fun b hb => Hob.out b hb
          have hS4 : (fun x : World => x.cell? ⟨wo.heap.size, 0, none⟩ = some (.slice (fr k).sa (rep l k).store.length (fr k).sc) ∧ x.cell? ⟨wo.heap.size, 1, none⟩ = some (.slice (fr k).ra (rep l k).refs.length (fr k).rc) ∧ x.cell? ⟨wo.heap.size, 2, none⟩ = some (.int .i64 (rep l k).gen) ∧ x.cell? ⟨wo.heap.size, 3, none⟩ = some (.int .i64 (rep l k).phase) ∧ x.cell? ⟨wo.heap.size, 4, none⟩ = some (.slice (fr k).oa (rep l k).pend.objects.length (fr k).oc) ∧ x.cell? ⟨wo.heap.size, 5, none⟩ = some (.slice (fr k).ua (rep l k).pend.updates.length (fr k).uc) ∧ x.cell? ⟨wo.heap.size, 6, none⟩ = some (.bool (rep l k).pend.force)) x4 := ⟨hu4.cell hS2.1 (fun e => absurd (hjo _ e).2 (Nat.lt_irrefl _)), hu4.cell hS2.2.1 (fun e => absurd (hjo _ e).2 (Nat.lt_irrefl _)), hu4.cell hS2.2.2.1 (fun e => absurd (hjo _ e).2 (Nat.lt_irrefl _)), hu4.cell hS2.2.2.2.1 (fun e => absurd (hjo _ e).2 (Nat.lt_irrefl _)), hu4.cell hS2.2.2.2.2.1 (fun e => absurd (hjo _ e).2 (Nat.lt_irrefl _)), hu4.cell hS2.2.2.2.2.2.1 (fun e => absurd (hjo _ e).2 (Nat.lt_irrefl _)), hu4.cell hS2.2.2.2.2.2.2 (fun e => absurd (hjo _ e).2 (Nat.lt_irrefl _))⟩
          have hJ4 := hu4.blk (HJ.out _ hC2) (fun e => by have := (hjo _ e).1; omega)
          have hR4 := HRu.out _ _ _ (hQR _ hC2) hu4 (fun b hb => by have := (hjo _ hb).1; omega)
          have HO4 := Lib.hid hO4
          refine ⟨hS4, ?_⟩
          clear hO4 hr4 hu4 hjo hrow
          refine wpAnyH_all (rs := [6]) (by kernel_rfl) (by simp) (fun j hj => ?_)
          obtain rfl : j = 6 := by simpa using hj
          refine Or.inl ?_
          go_simp
          first | refine ⟨hS4, ?_⟩ | skip
          refine wpAnyH_all (rs := [7]) (by kernel_rfl) (by simp) (fun j hj => ?_)
          obtain rfl : j = 7 := by simpa using hj
          refine Or.inl ?_
          have cJ := block_cell (j := 0) hJ4 rfl
          have fJ := block_free (j := 0) hJ4
          go_wp2_with fail
          first | refine ⟨hS4, by kernel_rfl, ?_⟩ | refine ⟨by kernel_rfl, ?_⟩
          have hu5 : Upd (fun b => b = w.heap.size + 2) x4 (x4.setCell ⟨w.heap.size + 2, 0, none⟩ (.slice a4 n4 c4)) := (Upd.refl (fun b => b = w.heap.size + 2) x4).setCell (p := ⟨w.heap.size + 2, 0, none⟩) (fun _ => rfl) _
          have hJ5 : (x4.setCell ⟨w.heap.size + 2, 0, none⟩ (.slice a4 n4 c4)).heap[w.heap.size + 2]? = some (.cells #[.slice a4 n4 c4] 44 (0, 0)) := block_setCell (j := 0) hJ4 (.slice a4 n4 c4)
          have hR5 := HRu.out _ _ _ hR4 hu5 (fun b hb => by omega)
          have hge : ∀ b, (F b ∨ ((x0.heap.size ≤ b ∧ b < x1.heap.size) ∨ b = x1.heap.size)) → w.heap.size + 3 ≤ b := fun b hb => by rcases hb with hb | hb | hb; exact HF.out b hb; omega; omega
          have hO5 : OwnF (w.heap.size + 3) _ (.slice a4 n4 c4) (l.take (k + 1)) := ⟨_, OwnC.list HTk.out.symm (HO4.out.upd hu5 (fun b hb e => by have := hge b hb; omega) (fun g hg e => by have := (HO4.out.block hg).1; omega)), hge⟩
          generalize x4.setCell ⟨w.heap.size + 2, 0, none⟩ (.slice a4 n4 c4) = x5 at *
          have HI5 := Lib.hid (show ∃ va vn vc, OwnF (w.heap.size + 3) x5 (.slice va vn vc) (l.take (k + 1)) ∧ x5.heap[w.heap.size + 2]? = some (.cells #[.slice va vn vc] 44 (0, 0)) from ⟨_, _, _, hO5, hJ5⟩)
          clear hO5 hJ5 hge hu5 HO4 cJ fJ hS4 hJ4 hS0 hS1 hS2 HS HO HJ HC Hv HI
          go_wp2_with fail
          go_roundw
          case rel => exact ⟨k + 1, by omega, by go_num, HI5.out, hR5⟩
          case measure => simp [intOf]; omega
        · skip
          obtain rfl : j = 4 := by simpa using hj
          refine Or.inl ?_
          have hC2 := hQ.alloc _ (.cells #[.slice sa1 (rep l k).store.length sc1, .slice ra1 (rep l k).refs.length rc1, .int .i64 (rep l k).gen, .int .i64 (rep l k).phase, .slice oa1 (rep l k).pend.objects.length oc1, .slice ua1 (rep l k).pend.updates.length uc1, .bool (rep l k).pend.force] 28) hC1
          have hS2 := HS _ hC2
          have hrow := Lib.hid (reps_new x1 (rep l k) ⟨.slice sa1 (rep l k).store.length sc1, .slice ra1 (rep l k).refs.length rc1, .slice oa1 (rep l k).pend.objects.length oc1, .slice ua1 (rep l k).pend.updates.length uc1⟩ 28 x1.heap.size rfl (RepIs.lt Hv.out))
          go_simp
          refine wpAnyH_all (rs := [1]) (by kernel_rfl) (by simp) (fun j hj => ?_)
          obtain rfl : j = 1 := by simpa using hj
          refine Or.inl ?_
          have cJw := block_cell (j := 0) (HJ.out _ hC2) rfl
          go_simp
          clear cJw
          refine wpAnyH_all (rs := [5]) (by kernel_rfl) (by simp) (fun j hj => ?_)
          obtain rfl : j = 5 := by simpa using hj
          refine Or.inl ?_
          obtain ⟨v4, x4, hr4, hO4, hu4⟩ := append_reps 38 (HO.out _ hC2) hrow.out (fun b hb => ⟨by rcases hb with hb | hb; have := hb.2; simp; omega; simp; omega, fun e => by have := (Hob.out _ e).2; rcases hb with hb | hb; have := hb.1; omega; omega⟩) (by simp; omega) (by simp; omega)
          obtain ⟨a4, n4, c4, rfl⟩ := hO4.shape3
          refine wp_append_run (.tmp 14) (.tmp 17) 38 (by rfl) _ _ _ (by rfl) (by rfl) hr4 ?_
          simp only [Act.put, List.setIfInBounds_toArray, List.set_cons_zero, List.set_cons_succ]
          have hjo : ∀ b, (Value.slice va vn vc).ownBlock = some b → w.heap.size + 3 ≤ b ∧ b < wo.heap.size := fun b hb => Hob.out b hb
          have hS4 : (fun x : World => x.cell? ⟨wo.heap.size, 0, none⟩ = some (.slice (fr k).sa (rep l k).store.length (fr k).sc) ∧ x.cell? ⟨wo.heap.size, 1, none⟩ = some (.slice (fr k).ra (rep l k).refs.length (fr k).rc) ∧ x.cell? ⟨wo.heap.size, 2, none⟩ = some (.int .i64 (rep l k).gen) ∧ x.cell? ⟨wo.heap.size, 3, none⟩ = some (.int .i64 (rep l k).phase) ∧ x.cell? ⟨wo.heap.size, 4, none⟩ = some (.slice (fr k).oa (rep l k).pend.objects.length (fr k).oc) ∧ x.cell? ⟨wo.heap.size, 5, none⟩ = some (.slice (fr k).ua (rep l k).pend.updates.length (fr k).uc) ∧ x.cell? ⟨wo.heap.size, 6, none⟩ = some (.bool (rep l k).pend.force)) x4 := ⟨hu4.cell hS2.1 (fun e => absurd (hjo _ e).2 (Nat.lt_irrefl _)), hu4.cell hS2.2.1 (fun e => absurd (hjo _ e).2 (Nat.lt_irrefl _)), hu4.cell hS2.2.2.1 (fun e => absurd (hjo _ e).2 (Nat.lt_irrefl _)), hu4.cell hS2.2.2.2.1 (fun e => absurd (hjo _ e).2 (Nat.lt_irrefl _)), hu4.cell hS2.2.2.2.2.1 (fun e => absurd (hjo _ e).2 (Nat.lt_irrefl _)), hu4.cell hS2.2.2.2.2.2.1 (fun e => absurd (hjo _ e).2 (Nat.lt_irrefl _)), hu4.cell hS2.2.2.2.2.2.2 (fun e => absurd (hjo _ e).2 (Nat.lt_irrefl _))⟩
          have hJ4 := hu4.blk (HJ.out _ hC2) (fun e => by have := (hjo _ e).1; omega)
          have hR4 := HRu.out _ _ _ (hQR _ hC2) hu4 (fun b hb => by have := (hjo _ hb).1; omega)
          have HO4 := Lib.hid hO4
          refine ⟨hS4, ?_⟩
          clear hO4 hr4 hu4 hjo hrow
          refine wpAnyH_all (rs := [6]) (by kernel_rfl) (by simp) (fun j hj => ?_)
          obtain rfl : j = 6 := by simpa using hj
          refine Or.inl ?_
          go_simp
          first | refine ⟨hS4, ?_⟩ | skip
          refine wpAnyH_all (rs := [7]) (by kernel_rfl) (by simp) (fun j hj => ?_)
          obtain rfl : j = 7 := by simpa using hj
          refine Or.inl ?_
          have cJ := block_cell (j := 0) hJ4 rfl
          have fJ := block_free (j := 0) hJ4
          go_wp2_with fail
          first | refine ⟨hS4, by kernel_rfl, ?_⟩ | refine ⟨by kernel_rfl, ?_⟩
          have hu5 : Upd (fun b => b = w.heap.size + 2) x4 (x4.setCell ⟨w.heap.size + 2, 0, none⟩ (.slice a4 n4 c4)) := (Upd.refl (fun b => b = w.heap.size + 2) x4).setCell (p := ⟨w.heap.size + 2, 0, none⟩) (fun _ => rfl) _
          have hJ5 : (x4.setCell ⟨w.heap.size + 2, 0, none⟩ (.slice a4 n4 c4)).heap[w.heap.size + 2]? = some (.cells #[.slice a4 n4 c4] 44 (0, 0)) := block_setCell (j := 0) hJ4 (.slice a4 n4 c4)
          have hR5 := HRu.out _ _ _ hR4 hu5 (fun b hb => by omega)
          have hge : ∀ b, (F b ∨ ((x0.heap.size ≤ b ∧ b < x1.heap.size) ∨ b = x1.heap.size)) → w.heap.size + 3 ≤ b := fun b hb => by rcases hb with hb | hb | hb; exact HF.out b hb; omega; omega
          have hO5 : OwnF (w.heap.size + 3) _ (.slice a4 n4 c4) (l.take (k + 1)) := ⟨_, OwnC.list HTk.out.symm (HO4.out.upd hu5 (fun b hb e => by have := hge b hb; omega) (fun g hg e => by have := (HO4.out.block hg).1; omega)), hge⟩
          generalize x4.setCell ⟨w.heap.size + 2, 0, none⟩ (.slice a4 n4 c4) = x5 at *
          have HI5 := Lib.hid (show ∃ va vn vc, OwnF (w.heap.size + 3) x5 (.slice va vn vc) (l.take (k + 1)) ∧ x5.heap[w.heap.size + 2]? = some (.cells #[.slice va vn vc] 44 (0, 0)) from ⟨_, _, _, hO5, hJ5⟩)
          clear hO5 hJ5 hge hu5 HO4 cJ fJ hS4 hJ4 hS0 hS1 hS2 HS HO HJ HC Hv HI
          go_wp2_with fail
          go_roundw
          case rel => exact ⟨k + 1, by omega, by go_num, HI5.out, hR5⟩
          case measure => simp [intOf]; omega
    · obtain rfl : k = n := by omega
      rw [HL.out] at hO
      have HOk := Lib.hid (And.intro hO hF)
      have hZ := HZ.out _ hRw
      have cJ := block_cell (j := 0) hJ rfl
      have cZ := block_cell (j := 0) hZ rfl
      have fZ := block_free (j := 0) hZ
      clear hO hF HI c0
      go_wp2_with fail
      have hu5 : Upd (fun b => b = w.heap.size + 1) wr (wr.setCell ⟨w.heap.size + 1, 0, none⟩ (.slice va vn vc)) := (Upd.refl (fun b => b = w.heap.size + 1) wr).setCell (p := ⟨w.heap.size + 1, 0, none⟩) (fun _ => rfl) _
      have hk5 : (wr.setCell ⟨w.heap.size + 1, 0, none⟩ (.slice va vn vc)).heap[w.heap.size + 1]? = some (.cells #[.slice va vn vc] 44 (0, 0)) := block_setCell (j := 0) hZ (.slice va vn vc)
      generalize wr.setCell ⟨w.heap.size + 1, 0, none⟩ (.slice va vn vc) = x5 at *
      have k0 := block_cell (j := 0) hk5 rfl
      refine bodyPost_ret (v := .agg #[.slice va vn vc]) (by simp [results, Tryz.results31, go_sem]; simp [k0] <;> rfl) rfl ?_
      refine ⟨_, rfl, ⟨F, (HOk.out.1.upd hu5 (fun b hb e => by have := HOk.out.2 b hb; omega) (fun g hg e => by have := (HOk.out.1.block hg).1; omega)).weaken (B' := w.heap.size) (fun _ h => h) (fun b hb => ⟨Nat.lt_of_lt_of_le (HOk.out.1.lt hb) hu5.size, HOk.out.1.own hb⟩) (by omega), fun b hb => by have := HOk.out.2 b hb; omega⟩, (hRb _ hRw).trans (hu5.below (B := w.heap.size) (hRb _ hRw).size (fun b hb => by omega))⟩
end Go.Proofs.YtjkbaallfkjmhaaGreat
