
/- AllA: walk of the reference's AllOf. -/
import Derived.Test.YtjkbaallfkjmhaaRepD
import Derived.Test.YtjkbaallfkjmhaaRepE
import Derived.Deep.DeepCutAuto
namespace Go.Proofs.Ytjkbaallfkjmhaa
open Go.RowKit
set_option linter.unusedVariables false
set_option linter.unusedSimpArgs false

theorem bestTo_max (l : List Rep) : ∀ k j, j < k → (rep l j).gen ≤ (rep l (bestTo l k).1).gen
  | 0, _, h => by omega
  | k + 1, j, h => by
    have ih := bestTo_max l k
    unfold bestTo
    by_cases h0 : k = 0
    · subst h0
      obtain rfl : j = 0 := by omega
      rw [if_pos (.inl rfl)]; exact Int.le_refl _
    · by_cases hg : (rep l (bestTo l k).1).gen < (rep l k).gen
      · rw [if_pos (.inr hg)]
        show (rep l j).gen ≤ (rep l k).gen
        by_cases e : j = k
        · subst e; omega
        · have := ih j (by omega); omega
      · rw [if_neg (by simp [h0, hg])]
        have e1 : ∀ m, (if (rep l k).gen = (rep l (bestTo l k).1).gen then ((bestTo l k).1, m) else bestTo l k).1 = (bestTo l k).1 := fun m => by split <;> rfl
        rw [e1]
        by_cases e : j = k
        · subst e; omega
        · exact ih j (by omega)
theorem best_max {l : List Rep} {j : Nat} (h : j < l.length) : (rep l j).gen ≤ (rep l (best l)).gen := bestTo_max l _ j h
theorem RepsV.lt {S : Nat → Prop} {w : World} {v : Value} {l : List Rep} (h : RepsV S w v l) : RepsV (fun b => S b ∧ b < w.heap.size) w v l := by
  obtain ⟨vs, ⟨a, cap, hv, h1, h2, h3, h4⟩, h5⟩ := h
  refine ⟨vs, ⟨a, cap, hv, h1, h2, h3, fun hn => ?_⟩, fun i hi => RepIs.lt (h5 i hi)⟩
  obtain ⟨b, off, ha, hS, hc⟩ := h4 hn
  exact ⟨b, off, ha, ⟨hS, World.block_lt_of_cell? w _ (hc 0 hn 0 _ rfl)⟩, hc⟩
theorem setCells7 (g o : Nat) (v0 v1 v2 v3 v4 v5 v6 : Value) (w : World) : w.setCells g o [v0, v1, v2, v3, v4, v5, v6] = ((((((w.setCell ⟨g, o, none⟩ v0).setCell ⟨g, o + 1, none⟩ v1).setCell ⟨g, o + 2, none⟩ v2).setCell ⟨g, o + 3, none⟩ v3).setCell ⟨g, o + 4, none⟩ v4).setCell ⟨g, o + 5, none⟩ v5).setCell ⟨g, o + 6, none⟩ v6 := rfl
/-- an empty row of the call's own -/
theorem OwnC.empty (B : Nat) (w : World) (hB : B ≤ w.heap.size) : OwnC (fun _ => False) B (w.alloc (.cells #[] 28)) (.slice (some ⟨w.heap.size, 0, none⟩) 0 0) [] :=
  ⟨fun _ => ⟨.nilFunc, .nilFunc, .nilFunc, .nilFunc⟩, fun _ h => h.elim, ⟨rfl, .inr ⟨w.heap.size, 0, #[], rfl, hB, heap_alloc_new w _, Nat.le_refl _, by unfold maxLen; omega, rfl, rfl⟩⟩, fun i hi => by simp at hi⟩

/-- a row of the call's own beside the boxes of a call on clusters -/
structure RowAt (A : Nat → Prop) (w : World) (cv : Value) (g c D5 : Nat) (L : List Rep) (y : World) : Prop where
  bel : Below w.heap.size w y
  row : OwnC (fun b => ((A b ∧ b < w.heap.size) ∨ w.heap.size + 2 ≤ b) ∧ b ≠ g ∧ b < y.heap.size) (w.heap.size + 2) y (.slice (some ⟨g, 0, none⟩) 3 c) L
  inp : y.heap[w.heap.size]? = some (.cells #[cv] 31 (0, 0))
  out : y.heap[w.heap.size + 1]? = some (.cells #[.slice none 0 0] 31 (0, 0))
  box : y.heap[D5]? = some (.cells #[.slice (some ⟨g, 0, none⟩) 3 c] 31 (0, 0))
theorem RowAt.gge {A : Nat → Prop} {w : World} {cv : Value} {g c D5 : Nat} {L : List Rep} {y : World} (h : RowAt A w cv g c D5 L y) : w.heap.size + 2 ≤ g ∧ g < y.heap.size := h.row.block rfl
theorem RowAt.below {A : Nat → Prop} {w : World} {cv : Value} {g c D5 : Nat} {L : List Rep} {y z : World} (h : RowAt A w cv g c D5 L y) (hb : Below y.heap.size y z) : RowAt A w cv g c D5 L z :=
  ⟨below_next h.bel hb, (h.row.below hb).weaken (fun b h' => ⟨h'.1, h'.2.1, Nat.lt_of_lt_of_le h'.2.2 hb.size⟩) (fun b h' => ⟨h'.2.2, fun e => h'.2.1 (by cases e; rfl)⟩) (Nat.le_refl _), blk_below h.inp hb, blk_below h.out hb, blk_below h.box hb⟩
/-- one is written -/
theorem RowAt.set {A : Nat → Prop} {w : World} {cv : Value} {g c D5 : Nat} {L : List Rep} {y : World} (h : RowAt A w cv g c D5 L y) (hD : D5 ≠ g) {i : Nat} (hi : i < L.length) {r : Rep} {x : RV} {S2 : Nat → Prop} (hr : RepAt S2 y r x) (h2 : ∀ b, S2 b → b < y.heap.size ∧ b ≠ g ∧ ((A b ∧ b < w.heap.size) ∨ w.heap.size + 2 ≤ b)) :
    RowAt A w cv g c D5 (L.set i r) (y.setCells g (i * 7) (repC r x)) ∧ Upd (fun b => b = g) y (y.setCells g (i * 7) (repC r x)) := by
  obtain ⟨ho, hu⟩ := h.row.set hi hr (fun b hb => ⟨(h2 b hb).1, (h2 b hb).2.1⟩)
  have hg := h.gge
  refine ⟨⟨h.bel.trans (hu.below (B := w.heap.size) h.bel.size (fun b hb => by omega)), ho.weaken (fun b hb => ?_) (fun b hb => ⟨hb.2.2, fun e => hb.2.1 (by cases e; rfl)⟩) (Nat.le_refl _), hu.blk h.inp (by omega), hu.blk h.out (by omega), hu.blk h.box hD⟩, hu⟩
  have hz := hu.size
  rcases hb with hb | hb
  · exact ⟨hb.1, hb.2.1, by omega⟩
  · exact ⟨(h2 b hb).2.2, (h2 b hb).2.1, by have := (h2 b hb).1; omega⟩

set_option maxRecDepth 100000 in
set_option maxHeartbeats 8000000 in
theorem allOf_any (l : List Rep) (v : Value) (S : Nat → Prop) (w : World) (h : RepsV S w v l) (hz : cluE l = 0) :
    Calls Try.prog 12 #[.agg #[v]] w fun e w' => ∃ v', e = .returned (.tuple #[.agg #[v'], .int .i64 (allN l), .int .i64 (allE l)]) ∧ RepsV (fun b => S b ∨ w.heap.size ≤ b) w' v' (allL l) ∧ Below w.heap.size w w' := by
  have Hz3 := Lib.hid (cluE_zero hz)
  have HE := Lib.hid (show allE l = scan (mendErr l (best l)) 3 by unfold allE; rw [if_neg (by simpa using hz), Hz3.out.1])
  have HL := Lib.hid (show allL l = if allE l = 0 then mendTo l (best l) 3 else [] by unfold allL; rw [Hz3.out.1])
  have HN := Lib.hid (show allN l = if allE l = 0 then mendN l (best l) 3 else 0 by unfold allN; rw [Hz3.out.1])
  have hbl : best l < 3 := by have := best_lt (l := l) (by have := Hz3.out.1; omega); have := Hz3.out.1; omega
  have H := Lib.hid h.lt
  obtain ⟨a, cap, rfl⟩ := h.vshape
  rw [Hz3.out.1] at H ⊢
  clear h hz
  obtain ⟨w2, hw2⟩ : ∃ w2, w2 = (w.alloc (.cells #[.slice a 3 cap] 31)).alloc (.cells #[.slice none 0 0] 31) := ⟨_, rfl⟩
  have hb2 : Below w.heap.size w w2 := by rw [hw2]; exact ((Below.refl _ _).alloc (Nat.le_refl _) _).alloc (by simp) _
  have hs2 : w2.heap.size = w.heap.size + 2 := by rw [hw2]; simp
  have hi2 : w2.heap[w.heap.size]? = some (.cells #[.slice a 3 cap] 31 (0, 0)) := by rw [hw2, Below.heap_alloc _ _ _ (by simp)]; exact heap_alloc_new w _
  have ho2 : w2.heap[w.heap.size + 1]? = some (.cells #[.slice none 0 0] 31 (0, 0)) := by rw [hw2]; exact heap_new _ _ _ (by simp)
  have hO3 := OwnC.empty (w.heap.size + 2) w2 (by omega)
  have hb3 : Below w2.heap.size w2 (w2.alloc (.cells #[] 28)) := (Below.refl _ _).alloc (Nat.le_refl _) _
  obtain ⟨v4, x4, hap, hO4, hu4⟩ := append_reps 29 hO3 (H.out.below (hb2.trans (hb3.mono (by omega)))) (fun b hb => ⟨by simp; omega, fun e => by simp [Value.ownBlock] at e; omega⟩) (by have := Hz3.out.1; simp; omega) (by simp; omega)
  rw [List.nil_append] at hO4
  obtain ⟨a4, c4, rfl⟩ := hO4.shape
  obtain ⟨g, rfl⟩ : ∃ g, a4 = some ⟨g, 0, none⟩ := by
    obtain ⟨_, _, ⟨_, h2⟩, _⟩ := hO4
    rcases h2 with ⟨e, h0⟩ | ⟨g, cp, cur, e, _⟩
    · have := Hz3.out.1; exfalso; omega
    · cases e; exact ⟨g, rfl⟩
  rw [Hz3.out.1] at hap hO4
  have hg4 := hO4.block (g := g) rfl
  have hB4 : Below (w.heap.size + 2) w2 x4 := (hb3.mono (by omega)).trans (hu4.below (B := w.heap.size + 2) (by simp; omega) (fun b hb => by simp [Value.ownBlock] at hb; omega))
  obtain ⟨x5, hx5⟩ : ∃ x5, x5 = x4.alloc (.cells #[.slice (some ⟨g, 0, none⟩) 3 c4] 31) := ⟨_, rfl⟩
  have hb5 : Below x4.heap.size x4 x5 := by rw [hx5]; exact (Below.refl _ _).alloc (Nat.le_refl _) _
  have hA5 : RowAt S w (.slice a 3 cap) g c4 x4.heap.size l x5 := by
    have hz4 := hB4.size
    have hlt4 : ∀ b, S b ∧ b < w.heap.size → b ≠ g := fun b hb e => by omega
    refine ⟨(hb2.trans (hB4.mono (by omega))).trans (hb5.mono (by omega)), (hO4.below hb5).weaken (fun b hb => ?_) (fun b hb => ⟨hb.2.2, fun e => hb.2.1 (by cases e; rfl)⟩) (Nat.le_refl _), (hb5.block _ (by omega)).trans ((hB4.block _ (by omega)).trans hi2), (hb5.block _ (by omega)).trans ((hB4.block _ (by omega)).trans ho2), by rw [hx5]; exact heap_alloc_new x4 _⟩
    rcases hb with hb | hb
    · exact hb.elim
    · have := hb5.size; exact ⟨.inl hb, by omega, by omega⟩
  have HA5 := Lib.hid hA5
  have hgD : g < x4.heap.size := hg4.2
  have Hx5 := Lib.hid hx5
  have Hap := Lib.hid hap
  have hz5 : x5.heap.size = x4.heap.size + 1 := by rw [hx5]; simp
  have Hw2 := Lib.hid hw2
  have Hmx := Lib.hid (fun j (hj : j < 3) => best_max (l := l) (j := j) (by have := Hz3.out.1; omega))
  have Hz5 := Lib.hid hz5
  have Hs2 := Lib.hid (show w2.heap.size = w.heap.size + 1 + 1 from hs2)
  clear hA5 hO4 hO3 hu4 hb3 hB4 hb5 hi2 ho2 hb2 hx5 hw2 hs2 hz5 hg4
  obtain ⟨a0, n0, cap0, fr, HN0, e0, h1, h2, h3, h4, h5⟩ := H.out.open
  cases e0
  obtain ⟨b0, off0, rfl, hb0, k0, k1, k2, k3, k4, k5, k6⟩ := h4 (by omega)
  have Hk := Lib.hid (And.intro k0 (And.intro k1 (And.intro k2 (And.intro k3 (And.intro k4 (And.intro k5 k6))))))
  have H5 := Lib.hid h5
  clear k0 k1 k2 k3 k4 k5 k6 h4 h5 HN0 h1 h2 h3
  have HB3 := Lib.hid (fun x (hx : Below w.heap.size w x) => bestOf_any l _ _ x (H.out.below hx))
  rw [Hs2.out, Hw2.out] at hap
  generalize hbb : best l = b at *
  have Hbb := Lib.hid hbb
  clear hbb
  go_enter Try.func12, Try.ntmps12
  go_upto_region 2 with (at_builtin; refine wpList_append_run rfl _ _ 29 rfl _ _ _ rfl rfl hap ?_)
  rw [← Hx5.out]
  go_cut [6] (fun s6 wx => ∃ D6, s6 = .pointer (some ⟨D6, 0, none⟩) ∧ ∃ y, y = wx ∧ Hid (RowAt S w (.slice (some ⟨b0, off0, none⟩) 3 cap) g c4 x4.heap.size l y ∧ y.heap[D6]? = some (.cells #[.slice (fr b).sa (rep l b).store.length (fr b).sc, .slice (fr b).ra (rep l b).refs.length (fr b).rc, .int .i64 (rep l b).gen, .int .i64 (rep l b).phase, .slice (fr b).oa (rep l b).pend.objects.length (fr b).oc, .slice (fr b).ua (rep l b).pend.updates.length (fr b).uc, .bool (rep l b).pend.force] 28 (0, 0)) ∧ g < D6 ∧ w.heap.size + 1 < D6))
  case first =>
    clear hap
    obtain ⟨Q, hQ, hQ1, hQu⟩ := cls_new x5
    have hQb := hQ.below
    have hQn := hQ.next
    have HQu := Lib.hid hQu
    clear hQu
    have HBw := Lib.hid (fun x (hx : In Q x) => below_next HA5.out.bel (hQb _ hx))
    have c0 := fun x (hx : In Q x) => block_cell (j := 0) (blk_below HA5.out.inp (hQb _ hx)) rfl
    have e0 := fun x (hx : In Q x) => Hk.out.1 b x hbl (HBw.out x hx)
    have e1 := fun x (hx : In Q x) => Hk.out.2.1 b x hbl (HBw.out x hx)
    have e2 := fun x (hx : In Q x) => Hk.out.2.2.1 b x hbl (HBw.out x hx)
    have e3 := fun x (hx : In Q x) => Hk.out.2.2.2.1 b x hbl (HBw.out x hx)
    have e4 := fun x (hx : In Q x) => Hk.out.2.2.2.2.1 b x hbl (HBw.out x hx)
    have e5 := fun x (hx : In Q x) => Hk.out.2.2.2.2.2.1 b x hbl (HBw.out x hx)
    have e6 := fun x (hx : In Q x) => Hk.out.2.2.2.2.2.2 b x hbl (HBw.out x hx)
    have HBx := Lib.hid (fun x (hx : In Q x) => HB3.out x (HBw.out x hx))
    have hi1 : (0 : Int) ≤ (b : Int) := by omega
    have hi2 : (b : Int) < 3 := by omega
    refine wp_region_held (S := In Q) (by kernel_rfl) ?_
    change wpAnyH _ _ _ _ _ _ _ _ (World.drew _)
    have hC0 := hQ.drew _ hQ1
    generalize x5.drew = x0 at hC0 ⊢
    refine wpAnyH_take (i := 0) (v := .pointer (some ⟨w.heap.size, 0, none⟩)) rfl (by kernel_rfl) (by kernel_rfl) (by kernel_rfl) (fun _ _ _ h => h) (Or.inl ⟨by rfl, fun w hSw => ?_⟩) hC0 ?_
    · go_simp
    simp only [Act.put, List.getElem_toArray, List.getElem_cons_zero, List.getElem_cons_succ, List.setIfInBounds_toArray, List.set_cons_zero, List.set_cons_succ]
    refine wpAnyH_take (i := 1) (v := .slice (some ⟨b0, off0, none⟩) 3 cap) rfl (by kernel_rfl) (by kernel_rfl) (by kernel_rfl) (fun _ _ _ h => h) (Or.inl ⟨by rfl, fun w hSw => ?_⟩) hC0 ?_
    · have yy := c0 _ hSw; go_simp
    simp only [Act.put, List.getElem_toArray, List.getElem_cons_zero, List.getElem_cons_succ, List.setIfInBounds_toArray, List.set_cons_zero, List.set_cons_succ]
    refine wpAnyH_take (i := 2) (v := .agg #[.slice (some ⟨b0, off0, none⟩) 3 cap]) rfl (by kernel_rfl) (by kernel_rfl) (by kernel_rfl) (fun _ _ _ h => h) (Or.inl ⟨by rfl, fun w hSw => ?_⟩) hC0 ?_
    · have yy := c0 _ hSw; go_simp
    simp only [Act.put, List.getElem_toArray, List.getElem_cons_zero, List.getElem_cons_succ, List.setIfInBounds_toArray, List.set_cons_zero, List.set_cons_succ]
    refine wpAnyH_all (rs := [3, 6]) (by kernel_rfl) (by simp) (fun j hj => ?_)
    rcases List.mem_cons.1 hj with rfl | hj
    · skip
      refine Or.inl ?_
      go_wp2_with fail
      refine (HBx.out _ hC0).mono ?_
      rintro e x10 ⟨rfl, hb0⟩
      have hC1 := hQn _ _ hC0 hb0
      generalize x10 = x1 at *
      clear hb0
      go_simp
      refine wpAnyH_take (i := 4) (v := .pointer (some ⟨b0, off0 + b * 7, none⟩)) rfl (by kernel_rfl) (by kernel_rfl) (by kernel_rfl) (fun _ _ _ h => h) (Or.inl ⟨by rfl, fun w hSw => ?_⟩) hC1 ?_
      · go_simp
      simp only [Act.put, List.getElem_toArray, List.getElem_cons_zero, List.getElem_cons_succ, List.setIfInBounds_toArray, List.set_cons_zero, List.set_cons_succ]
      refine wpAnyH_take (i := 5) (v := .agg #[.slice (fr b).sa (rep l b).store.length (fr b).sc, .slice (fr b).ra (rep l b).refs.length (fr b).rc, .int .i64 (rep l b).gen, .int .i64 (rep l b).phase, .slice (fr b).oa (rep l b).pend.objects.length (fr b).oc, .slice (fr b).ua (rep l b).pend.updates.length (fr b).uc, .bool (rep l b).pend.force]) rfl (by kernel_rfl) (by kernel_rfl) (by kernel_rfl) (fun _ _ _ h => h) (Or.inl ⟨by rfl, fun w hSw => ?_⟩) hC1 ?_
      · have y0 := e0 _ hSw; have y1 := e1 _ hSw; have y2 := e2 _ hSw; have y3 := e3 _ hSw; have y4 := e4 _ hSw; have y5 := e5 _ hSw; have y6 := e6 _ hSw; go_simp
      simp only [Act.put, List.getElem_toArray, List.getElem_cons_zero, List.getElem_cons_succ, List.setIfInBounds_toArray, List.set_cons_zero, List.set_cons_succ]
      refine wpAnyH_all (rs := [6]) (by kernel_rfl) (by simp) (fun j hj => ?_)
      obtain rfl : j = 6 := by simpa using hj
      refine Or.inl ?_
      have hC2 := hQ.alloc _ (.cells #[.slice none 0 0, .slice none 0 0, .int .i64 0, .int .i64 0, .slice none 0 0, .slice none 0 0, .bool false] 28) hC1
      go_simp
      have hbA : Below x1.heap.size x1 (x1.alloc (.cells #[.slice none 0 0, .slice none 0 0, .int .i64 0, .int .i64 0, .slice none 0 0, .slice none 0 0, .bool false] 28)) := (Below.refl _ _).alloc (Nat.le_refl _) _
      have HDb := Lib.hid (heap_alloc_new x1 (.cells #[.slice none 0 0, .slice none 0 0, .int .i64 0, .int .i64 0, .slice none 0 0, .slice none 0 0, .bool false] 28))
      have HDge := Lib.hid (hQb _ hC1).size
      clear hbA
      generalize x1.heap.size = D at *
      generalize x1.alloc (.cells #[.slice none 0 0, .slice none 0 0, .int .i64 0, .int .i64 0, .slice none 0 0, .slice none 0 0, .bool false] 28) = x2 at *
      refine wpAnyH_all (rs := [7]) (by kernel_rfl) (by simp) (fun j hj => ?_)
      obtain rfl : j = 7 := by simpa using hj
      refine Or.inl ?_
      have hblk := HDb.out
      have g0 := block_cell (j := 0) hblk rfl
      have g1 := block_cell (j := 1) hblk rfl
      have g2 := block_cell (j := 2) hblk rfl
      have g3 := block_cell (j := 3) hblk rfl
      have g4 := block_cell (j := 4) hblk rfl
      have g5 := block_cell (j := 5) hblk rfl
      have g6 := block_cell (j := 6) hblk rfl
      have f0 := block_free (j := 0) hblk
      have f1 := block_free (j := 1) hblk
      have f2 := block_free (j := 2) hblk
      have f3 := block_free (j := 3) hblk
      have f4 := block_free (j := 4) hblk
      have f5 := block_free (j := 5) hblk
      have f6 := block_free (j := 6) hblk
      have Hb7 := Lib.hid (set7_is (v0 := .slice (fr b).sa (rep l b).store.length (fr b).sc) (v1 := .slice (fr b).ra (rep l b).refs.length (fr b).rc) (v2 := .int .i64 (rep l b).gen) (v3 := .int .i64 (rep l b).phase) (v4 := .slice (fr b).oa (rep l b).pend.objects.length (fr b).oc) (v5 := .slice (fr b).ua (rep l b).pend.updates.length (fr b).uc) (v6 := .bool (rep l b).pend.force) hblk)
      have Hu7 := Lib.hid (set7_upd D (.slice (fr b).sa (rep l b).store.length (fr b).sc) (.slice (fr b).ra (rep l b).refs.length (fr b).rc) (.int .i64 (rep l b).gen) (.int .i64 (rep l b).phase) (.slice (fr b).oa (rep l b).pend.objects.length (fr b).oc) (.slice (fr b).ua (rep l b).pend.updates.length (fr b).uc) (.bool (rep l b).pend.force) x2)
      have hQ7 := HQu.out _ _ _ hC2 Hu7.out (fun b hb => by have := HDge.out; omega)
      go_wp2_with fail
      first | refine ⟨hQ7, by kernel_rfl, ?_⟩ | refine ⟨by kernel_rfl, ?_⟩
      change Exit.then _ _ _ _ (set7 D (.slice (fr b).sa (rep l b).store.length (fr b).sc) (.slice (fr b).ra (rep l b).refs.length (fr b).rc) (.int .i64 (rep l b).gen) (.int .i64 (rep l b).phase) (.slice (fr b).oa (rep l b).pend.objects.length (fr b).oc) (.slice (fr b).ua (rep l b).pend.updates.length (fr b).uc) (.bool (rep l b).pend.force) x2)
      generalize set7 D (.slice (fr b).sa (rep l b).store.length (fr b).sc) (.slice (fr b).ra (rep l b).refs.length (fr b).rc) (.int .i64 (rep l b).gen) (.int .i64 (rep l b).phase) (.slice (fr b).oa (rep l b).pend.objects.length (fr b).oc) (.slice (fr b).ua (rep l b).pend.updates.length (fr b).uc) (.bool (rep l b).pend.force) x2 = w7 at *
      clear g0 g1 g2 g3 g4 g5 g6 f0 f1 f2 f3 f4 f5 f6 hblk Hu7
      have HEnd := Lib.hid (show RowAt S w (.slice (some ⟨b0, off0, none⟩) 3 cap) g c4 x4.heap.size l w7 ∧ w7.heap[D]? = some (.cells #[.slice (fr b).sa (rep l b).store.length (fr b).sc, .slice (fr b).ra (rep l b).refs.length (fr b).rc, .int .i64 (rep l b).gen, .int .i64 (rep l b).phase, .slice (fr b).oa (rep l b).pend.objects.length (fr b).oc, .slice (fr b).ua (rep l b).pend.updates.length (fr b).uc, .bool (rep l b).pend.force] 28 (0, 0)) ∧ g < D ∧ w.heap.size + 1 < D from ⟨HA5.out.below (hQb _ hQ7), Hb7.out, by have := HDge.out; have := HA5.out.gge; omega, by have := HDge.out; have := HA5.out.gge; omega⟩)
      go_wp2_with fail
      go_meet
      exact ⟨D, rfl, w7, rfl, HEnd⟩
    · skip
      obtain rfl : j = 6 := by simpa using hj
      refine Or.inl ?_
      have hC1 := hQ.alloc _ (.cells #[.slice none 0 0, .slice none 0 0, .int .i64 0, .int .i64 0, .slice none 0 0, .slice none 0 0, .bool false] 28) hC0
      go_simp
      have hbA : Below x0.heap.size x0 (x0.alloc (.cells #[.slice none 0 0, .slice none 0 0, .int .i64 0, .int .i64 0, .slice none 0 0, .slice none 0 0, .bool false] 28)) := (Below.refl _ _).alloc (Nat.le_refl _) _
      have HDb := Lib.hid (heap_alloc_new x0 (.cells #[.slice none 0 0, .slice none 0 0, .int .i64 0, .int .i64 0, .slice none 0 0, .slice none 0 0, .bool false] 28))
      have HDge := Lib.hid (hQb _ hC0).size
      clear hbA
      generalize x0.heap.size = D at *
      generalize x0.alloc (.cells #[.slice none 0 0, .slice none 0 0, .int .i64 0, .int .i64 0, .slice none 0 0, .slice none 0 0, .bool false] 28) = x1 at *
      refine wpAnyH_all (rs := [3]) (by kernel_rfl) (by simp) (fun j hj => ?_)
      obtain rfl : j = 3 := by simpa using hj
      refine Or.inl ?_
      go_wp2_with fail
      refine (HBx.out _ hC1).mono ?_
      rintro e x11 ⟨rfl, hb0⟩
      have hC2 := hQn _ _ hC1 hb0
      replace HDb := Lib.hid (blk_below HDb.out hb0)
      generalize x11 = x2 at *
      clear hb0
      go_simp
      refine wpAnyH_take (i := 4) (v := .pointer (some ⟨b0, off0 + b * 7, none⟩)) rfl (by kernel_rfl) (by kernel_rfl) (by kernel_rfl) (fun _ _ _ h => h) (Or.inl ⟨by rfl, fun w hSw => ?_⟩) hC2 ?_
      · go_simp
      simp only [Act.put, List.getElem_toArray, List.getElem_cons_zero, List.getElem_cons_succ, List.setIfInBounds_toArray, List.set_cons_zero, List.set_cons_succ]
      refine wpAnyH_take (i := 5) (v := .agg #[.slice (fr b).sa (rep l b).store.length (fr b).sc, .slice (fr b).ra (rep l b).refs.length (fr b).rc, .int .i64 (rep l b).gen, .int .i64 (rep l b).phase, .slice (fr b).oa (rep l b).pend.objects.length (fr b).oc, .slice (fr b).ua (rep l b).pend.updates.length (fr b).uc, .bool (rep l b).pend.force]) rfl (by kernel_rfl) (by kernel_rfl) (by kernel_rfl) (fun _ _ _ h => h) (Or.inl ⟨by rfl, fun w hSw => ?_⟩) hC2 ?_
      · have y0 := e0 _ hSw; have y1 := e1 _ hSw; have y2 := e2 _ hSw; have y3 := e3 _ hSw; have y4 := e4 _ hSw; have y5 := e5 _ hSw; have y6 := e6 _ hSw; go_simp
      simp only [Act.put, List.getElem_toArray, List.getElem_cons_zero, List.getElem_cons_succ, List.setIfInBounds_toArray, List.set_cons_zero, List.set_cons_succ]
      refine wpAnyH_all (rs := [7]) (by kernel_rfl) (by simp) (fun j hj => ?_)
      obtain rfl : j = 7 := by simpa using hj
      refine Or.inl ?_
      have hblk := HDb.out
      have g0 := block_cell (j := 0) hblk rfl
      have g1 := block_cell (j := 1) hblk rfl
      have g2 := block_cell (j := 2) hblk rfl
      have g3 := block_cell (j := 3) hblk rfl
      have g4 := block_cell (j := 4) hblk rfl
      have g5 := block_cell (j := 5) hblk rfl
      have g6 := block_cell (j := 6) hblk rfl
      have f0 := block_free (j := 0) hblk
      have f1 := block_free (j := 1) hblk
      have f2 := block_free (j := 2) hblk
      have f3 := block_free (j := 3) hblk
      have f4 := block_free (j := 4) hblk
      have f5 := block_free (j := 5) hblk
      have f6 := block_free (j := 6) hblk
      have Hb7 := Lib.hid (set7_is (v0 := .slice (fr b).sa (rep l b).store.length (fr b).sc) (v1 := .slice (fr b).ra (rep l b).refs.length (fr b).rc) (v2 := .int .i64 (rep l b).gen) (v3 := .int .i64 (rep l b).phase) (v4 := .slice (fr b).oa (rep l b).pend.objects.length (fr b).oc) (v5 := .slice (fr b).ua (rep l b).pend.updates.length (fr b).uc) (v6 := .bool (rep l b).pend.force) hblk)
      have Hu7 := Lib.hid (set7_upd D (.slice (fr b).sa (rep l b).store.length (fr b).sc) (.slice (fr b).ra (rep l b).refs.length (fr b).rc) (.int .i64 (rep l b).gen) (.int .i64 (rep l b).phase) (.slice (fr b).oa (rep l b).pend.objects.length (fr b).oc) (.slice (fr b).ua (rep l b).pend.updates.length (fr b).uc) (.bool (rep l b).pend.force) x2)
      have hQ7 := HQu.out _ _ _ hC2 Hu7.out (fun b hb => by have := HDge.out; omega)
      go_wp2_with fail
      first | refine ⟨hQ7, by kernel_rfl, ?_⟩ | refine ⟨by kernel_rfl, ?_⟩
      change Exit.then _ _ _ _ (set7 D (.slice (fr b).sa (rep l b).store.length (fr b).sc) (.slice (fr b).ra (rep l b).refs.length (fr b).rc) (.int .i64 (rep l b).gen) (.int .i64 (rep l b).phase) (.slice (fr b).oa (rep l b).pend.objects.length (fr b).oc) (.slice (fr b).ua (rep l b).pend.updates.length (fr b).uc) (.bool (rep l b).pend.force) x2)
      generalize set7 D (.slice (fr b).sa (rep l b).store.length (fr b).sc) (.slice (fr b).ra (rep l b).refs.length (fr b).rc) (.int .i64 (rep l b).gen) (.int .i64 (rep l b).phase) (.slice (fr b).oa (rep l b).pend.objects.length (fr b).oc) (.slice (fr b).ua (rep l b).pend.updates.length (fr b).uc) (.bool (rep l b).pend.force) x2 = w7 at *
      clear g0 g1 g2 g3 g4 g5 g6 f0 f1 f2 f3 f4 f5 f6 hblk Hu7
      have HEnd := Lib.hid (show RowAt S w (.slice (some ⟨b0, off0, none⟩) 3 cap) g c4 x4.heap.size l w7 ∧ w7.heap[D]? = some (.cells #[.slice (fr b).sa (rep l b).store.length (fr b).sc, .slice (fr b).ra (rep l b).refs.length (fr b).rc, .int .i64 (rep l b).gen, .int .i64 (rep l b).phase, .slice (fr b).oa (rep l b).pend.objects.length (fr b).oc, .slice (fr b).ua (rep l b).pend.updates.length (fr b).uc, .bool (rep l b).pend.force] 28 (0, 0)) ∧ g < D ∧ w.heap.size + 1 < D from ⟨HA5.out.below (hQb _ hQ7), Hb7.out, by have := HDge.out; have := HA5.out.gge; omega, by have := HDge.out; have := HA5.out.gge; omega⟩)
      go_wp2_with fail
      go_meet
      exact ⟨D, rfl, w7, rfl, HEnd⟩
  case rest =>
    obtain ⟨D6, rfl, y6, rfl, HA6⟩ := hcut
    obtain ⟨hA6, hD6, hgD6, hD6b⟩ := HA6.out
    have HA6 := Lib.hid hA6
    have HD6 := Lib.hid hD6
    clear hA6 hD6 HA5 hap HB3 Hap Hx5 Hw2
    generalize x4.heap.size = D5 at *
    go_wp2_with fail
    go_loopw [7, 8] (fun nn i wr => ∃ k : Nat, k ≤ 3 ∧ i = .int .i64 k ∧ nn = .int .i64 (mendN l b k : Nat) ∧ Hid (scan (mendErr l b) k = 0) ∧ Hid (RowAt S w (.slice (some ⟨b0, off0, none⟩) 3 cap) g c4 D5 (mendTo l b k) wr ∧ wr.heap[D6]? = some (.cells #[.slice (fr b).sa (rep l b).store.length (fr b).sc, .slice (fr b).ra (rep l b).refs.length (fr b).rc, .int .i64 (rep l b).gen, .int .i64 (rep l b).phase, .slice (fr b).oa (rep l b).pend.objects.length (fr b).oc, .slice (fr b).ua (rep l b).pend.updates.length (fr b).uc, .bool (rep l b).pend.force] 28 (0, 0)))) (fun _ i _ => 3 - (intOf i).toNat)
    case atStart => exact ⟨0, by omega, rfl, rfl, rfl, HA6.out, HD6.out⟩
    case round =>
      obtain ⟨k, hk, rfl, rfl, Hs, HI⟩ := hrel
      clear HA6 HD6
      obtain ⟨wo, rfl⟩ : ∃ wo : World, wo = wr := ⟨_, rfl⟩
      have hmn := mendN_le l b k
      by_cases hlt : k < 3
      case neg =>
        obtain rfl : k = 3 := by omega
        have HE2 := Lib.hid (show allE l = 0 by rw [HE.out]; exact Hs.out)
        have HL2 := Lib.hid (show allL l = mendTo l b 3 by rw [HL.out, if_pos HE2.out])
        have HN2 := Lib.hid (show allN l = mendN l b 3 by rw [HN.out, if_pos HE2.out])
        clear HE HL HN Hs
        have HL3 := Lib.hid (show (mendTo l b 3).length = 3 by rw [mendTo_length]; exact Hz3.out.1)
        generalize mendTo l b 3 = L3 at *
        generalize mendN l b 3 = mn at *
        have hA := HI.out.1
        have g0 := block_cell (j := 0) hA.out rfl
        have f0 := block_free (j := 0) hA.out
        have b5 := block_cell (j := 0) hA.box rfl
        have hu5 : Upd (fun b => b = w.heap.size + 1) wo (wo.setCell ⟨w.heap.size + 1, 0, none⟩ (.slice (some ⟨g, 0, none⟩) 3 c4)) := (Upd.refl (fun b => b = w.heap.size + 1) wo).setCell (p := ⟨w.heap.size + 1, 0, none⟩) (fun _ => rfl) _
        have hk5 : (wo.setCell ⟨w.heap.size + 1, 0, none⟩ (.slice (some ⟨g, 0, none⟩) 3 c4)).heap[w.heap.size + 1]? = some (.cells #[.slice (some ⟨g, 0, none⟩) 3 c4] 31 (0, 0)) := block_setCell (j := 0) hA.out (.slice (some ⟨g, 0, none⟩) 3 c4)
        have hB5 := hA.bel.trans (hu5.below (B := w.heap.size) hA.bel.size (fun b hb => by omega))
        have hg2 := hA.gge
        have hO5 := hA.row.upd hu5 (fun b hb e => by rcases hb.1 with h | h <;> omega) (fun q hq e => by simp [Value.ownBlock] at hq; omega)
        have HP := Lib.hid (And.intro (hO5.reps (S' := fun b => S b ∨ w.heap.size ≤ b) (by have := HL3.out; omega) (fun b hb => hb.1.elim (fun h => .inl h.1) (fun h => .inr (by omega))) (fun b hb => by simp [Value.ownBlock] at hb; exact .inr (by omega))) hB5)
        have Hk5 := Lib.hid hk5
        clear hO5 hB5 hu5 hA hg2 HI hk5
        go_wp2_with fail
        have hk5 := Hk5.out
        obtain ⟨w9, hw9⟩ : ∃ w9, w9 = wo.setCell ⟨w.heap.size + 1, 0, none⟩ (.slice (some ⟨g, 0, none⟩) 3 c4) := ⟨_, rfl⟩
        rw [← hw9] at hk5 HP ⊢
        have j0 := block_cell (j := 0) hk5 rfl
        refine bodyPost_ret (v := .tuple #[.agg #[.slice (some ⟨g, 0, none⟩) 3 c4], .int .i64 (mn : Nat), .int .i64 0]) (by simp [results, Try.results12, go_sem]; simp [j0] <;> rfl) rfl ?_
        exact ⟨_, by rw [HN2.out, HE2.out], by rw [HL2.out]; exact HP.out.1, HP.out.2⟩
      case pos =>
        have hl3 := Hz3.out.1
        have HnT := Lib.hid (show mendTo l b (k + 1) = if (rep l k).gen = (rep l b).gen then mendTo l b k else (mendTo l b k).set k (repairR (rep l b) (rep l k)) from rfl)
        have HnN := Lib.hid (show mendN l b (k + 1) = if (rep l k).gen = (rep l b).gen then mendN l b k else mendN l b k + 1 from rfl)
        have HnE := Lib.hid (show mendErr l b k = if (rep l k).gen = (rep l b).gen then 0 else repairE (rep l b) (rep l k) from rfl)
        have hmx := Hmx.out k hlt
        have HLl := Lib.hid (show (mendTo l b k).length = 3 by rw [mendTo_length]; exact hl3)
        have HLs := Lib.hid (fun (e : Int) (he : mendErr l b k = e) (hne : e ≠ 0) => (scan_hit (f := mendErr l b) Hs.out (by rw [he]; exact hne) hlt).trans he)
        generalize mendTo l b k = L at *
        generalize mendN l b k = mn at *
        obtain ⟨Q, hQ, hQ1, hQu⟩ := cls_new wo
        have hQb := hQ.below
        have hQn := hQ.next
        have HQu := Lib.hid hQu
        clear hQu
        have HA := Lib.hid HI.out.1
        have HD := Lib.hid HI.out.2
        have HBw := Lib.hid (fun x (hx : In Q x) => below_next HA.out.bel (hQb _ hx))
        have c0 := fun x (hx : In Q x) => block_cell (j := 0) (blk_below HA.out.inp (hQb _ hx)) rfl
        have e0 := fun x (hx : In Q x) => Hk.out.1 k x hlt (HBw.out x hx)
        have e1 := fun x (hx : In Q x) => Hk.out.2.1 k x hlt (HBw.out x hx)
        have e2 := fun x (hx : In Q x) => Hk.out.2.2.1 k x hlt (HBw.out x hx)
        have e3 := fun x (hx : In Q x) => Hk.out.2.2.2.1 k x hlt (HBw.out x hx)
        have e4 := fun x (hx : In Q x) => Hk.out.2.2.2.2.1 k x hlt (HBw.out x hx)
        have e5 := fun x (hx : In Q x) => Hk.out.2.2.2.2.2.1 k x hlt (HBw.out x hx)
        have e6 := fun x (hx : In Q x) => Hk.out.2.2.2.2.2.2 k x hlt (HBw.out x hx)
        have d0 := fun x (hx : In Q x) => block_cell (j := 0) (blk_below HD.out (hQb _ hx)) rfl
        have d1 := fun x (hx : In Q x) => block_cell (j := 1) (blk_below HD.out (hQb _ hx)) rfl
        have d2 := fun x (hx : In Q x) => block_cell (j := 2) (blk_below HD.out (hQb _ hx)) rfl
        have d3 := fun x (hx : In Q x) => block_cell (j := 3) (blk_below HD.out (hQb _ hx)) rfl
        have d4 := fun x (hx : In Q x) => block_cell (j := 4) (blk_below HD.out (hQb _ hx)) rfl
        have d5 := fun x (hx : In Q x) => block_cell (j := 5) (blk_below HD.out (hQb _ hx)) rfl
        have d6 := fun x (hx : In Q x) => block_cell (j := 6) (blk_below HD.out (hQb _ hx)) rfl
        have hi1 : (0 : Int) ≤ (k : Int) := by omega
        have hi2 : (k : Int) < 3 := by omega
        have hlt2 : decide (k < 3) = true := decide_eq_true hlt
        have cc := c0 _ hQ1
        have ee := e2 _ hQ1
        have dd := d2 _ hQ1
        by_cases hg : (rep l k).gen = (rep l b).gen
        case pos =>
          rw [if_pos hg] at HnT HnN HnE
          have hq : decide ((rep l k).gen < (rep l b).gen) = false := decide_eq_false (by omega)
          have Hs2 := Lib.hid (show scan (mendErr l b) (k + 1) = 0 from scan_next Hs.out HnE.out)
          clear hg HLs HLl e0 e1 e3 e4 e5 e6 d0 d1 d3 d4 d5 d6
          go_wp2_with fail
          go_quiet (fail)
          generalize hw2 : wo.drewN _ = w2 at *
          have hQ2 : In Q w2 := by rw [← hw2]; exact hQ.drewN _ _ hQ1
          clear hw2
          have HI2 := Lib.hid (show RowAt S w (.slice (some ⟨b0, off0, none⟩) 3 cap) g c4 D5 (mendTo l b (k + 1)) w2 ∧ w2.heap[D6]? = some (.cells #[.slice (fr b).sa (rep l b).store.length (fr b).sc, .slice (fr b).ra (rep l b).refs.length (fr b).rc, .int .i64 (rep l b).gen, .int .i64 (rep l b).phase, .slice (fr b).oa (rep l b).pend.objects.length (fr b).oc, .slice (fr b).ua (rep l b).pend.updates.length (fr b).uc, .bool (rep l b).pend.force] 28 (0, 0)) from by rw [HnT.out]; exact ⟨HA.out.below (hQb _ hQ2), blk_below HD.out (hQb _ hQ2)⟩)
          rw [← HnN.out]
          clear HA HD cc ee dd c0 e2 d2
          go_wp2_with fail
          go_roundw
          case rel => exact ⟨k + 1, by omega, by go_num, rfl, Hs2.out, HI2.out⟩
          case measure => simp [intOf]; omega
        case neg =>
          rw [if_neg hg] at HnT HnN HnE
          have hq : decide ((rep l k).gen < (rep l b).gen) = true := decide_eq_true (by omega)
          clear hg
          have h5b := H5.out b hbl
          have h5k := H5.out k hlt
          have HR := Lib.hid (fun x (hx : In Q x) => repairA_any (rep l b) (rep l k) _ _ _ _ _ _ _ _ _ _ x (h5b.below (HBw.out _ hx)) (h5k.below (HBw.out _ hx)) ((checkStore_zero (repCheck_store (Hz3.out.2.1 b hbl))).1) (repCheck_store (Hz3.out.2.1 k hlt)))
          simp only [repV] at HR
          clear h5b h5k
          go_wp2_with fail
          go_quiet (fail)
          generalize hw2 : wo.drewN _ = w2 at *
          have hQ2 : In Q w2 := by rw [← hw2]; exact hQ.drewN _ _ hQ1
          clear hw2 cc ee dd hq hQ1
          go_upto_region 8 with fail
          generalize hrr : repairR (rep l b) (rep l k) = rr at *
          generalize hre : repairE (rep l b) (rep l k) = re at *
          clear hrr hre
          go_cut [9, 10] (fun s9 s10 wx => ∃ D9, s9 = .pointer (some ⟨D9, 0, none⟩) ∧ s10 = .int .i64 re ∧ ∃ y, y = wx ∧ Hid (In Q y ∧ wo.heap.size ≤ D9 ∧ ∃ sa1 sc1 ra1 rc1 oa1 oc1 ua1 uc1, y.heap[D9]? = some (.cells #[.slice sa1 rr.store.length sc1, .slice ra1 rr.refs.length rc1, .int .i64 rr.gen, .int .i64 rr.phase, .slice oa1 rr.pend.objects.length oc1, .slice ua1 rr.pend.updates.length uc1, .bool rr.pend.force] 28 (0, 0)) ∧ RepIs (fun b => ((S b ∧ b < w.heap.size) ∨ wo.heap.size ≤ b) ∧ b < y.heap.size) y rr (.slice sa1 rr.store.length sc1) (.slice ra1 rr.refs.length rc1) (.slice oa1 rr.pend.objects.length oc1) (.slice ua1 rr.pend.updates.length uc1)))
          case first =>
            refine wp_region_held (S := In Q) (by kernel_rfl) ?_
            change wpAnyH _ _ _ _ _ _ _ _ (World.drew _)
            have hC0 := hQ.drew _ hQ2
            generalize w2.drew = x0 at hC0 ⊢
            refine wpAnyH_take (i := 0) (v := .agg #[.slice (fr b).sa (rep l b).store.length (fr b).sc, .slice (fr b).ra (rep l b).refs.length (fr b).rc, .int .i64 (rep l b).gen, .int .i64 (rep l b).phase, .slice (fr b).oa (rep l b).pend.objects.length (fr b).oc, .slice (fr b).ua (rep l b).pend.updates.length (fr b).uc, .bool (rep l b).pend.force]) rfl (by kernel_rfl) (by kernel_rfl) (by kernel_rfl) (fun _ _ _ h => h) (Or.inl ⟨by rfl, fun w hSw => ?_⟩) hC0 ?_
            · have y0 := d0 _ hSw; have y1 := d1 _ hSw; have y2 := d2 _ hSw; have y3 := d3 _ hSw; have y4 := d4 _ hSw; have y5 := d5 _ hSw; have y6 := d6 _ hSw; go_simp
            simp only [Act.put, List.getElem_toArray, List.getElem_cons_zero, List.getElem_cons_succ, List.setIfInBounds_toArray, List.set_cons_zero, List.set_cons_succ]
            refine wpAnyH_take (i := 1) (v := .pointer (some ⟨w.heap.size, 0, none⟩)) rfl (by kernel_rfl) (by kernel_rfl) (by kernel_rfl) (fun _ _ _ h => h) (Or.inl ⟨by rfl, fun w hSw => ?_⟩) hC0 ?_
            · go_simp
            simp only [Act.put, List.getElem_toArray, List.getElem_cons_zero, List.getElem_cons_succ, List.setIfInBounds_toArray, List.set_cons_zero, List.set_cons_succ]
            refine wpAnyH_take (i := 2) (v := .slice (some ⟨b0, off0, none⟩) 3 cap) rfl (by kernel_rfl) (by kernel_rfl) (by kernel_rfl) (fun _ _ _ h => h) (Or.inl ⟨by rfl, fun w hSw => ?_⟩) hC0 ?_
            · have yy := c0 _ hSw; go_simp
            simp only [Act.put, List.getElem_toArray, List.getElem_cons_zero, List.getElem_cons_succ, List.setIfInBounds_toArray, List.set_cons_zero, List.set_cons_succ]
            refine wpAnyH_take (i := 3) (v := .int .i64 (k : Int)) rfl (by kernel_rfl) (by kernel_rfl) (by kernel_rfl) (fun _ _ _ h => h) (Or.inl ⟨by rfl, fun w hSw => ?_⟩) hC0 ?_
            · go_simp
            simp only [Act.put, List.getElem_toArray, List.getElem_cons_zero, List.getElem_cons_succ, List.setIfInBounds_toArray, List.set_cons_zero, List.set_cons_succ]
            refine wpAnyH_take (i := 4) (v := .pointer (some ⟨b0, off0 + k * 7, none⟩)) rfl (by kernel_rfl) (by kernel_rfl) (by kernel_rfl) (fun _ _ _ h => h) (Or.inl ⟨by rfl, fun w hSw => ?_⟩) hC0 ?_
            · go_simp
            simp only [Act.put, List.getElem_toArray, List.getElem_cons_zero, List.getElem_cons_succ, List.setIfInBounds_toArray, List.set_cons_zero, List.set_cons_succ]
            refine wpAnyH_take (i := 5) (v := .agg #[.slice (fr k).sa (rep l k).store.length (fr k).sc, .slice (fr k).ra (rep l k).refs.length (fr k).rc, .int .i64 (rep l k).gen, .int .i64 (rep l k).phase, .slice (fr k).oa (rep l k).pend.objects.length (fr k).oc, .slice (fr k).ua (rep l k).pend.updates.length (fr k).uc, .bool (rep l k).pend.force]) rfl (by kernel_rfl) (by kernel_rfl) (by kernel_rfl) (fun _ _ _ h => h) (Or.inl ⟨by rfl, fun w hSw => ?_⟩) hC0 ?_
            · have y0 := e0 _ hSw; have y1 := e1 _ hSw; have y2 := e2 _ hSw; have y3 := e3 _ hSw; have y4 := e4 _ hSw; have y5 := e5 _ hSw; have y6 := e6 _ hSw; go_simp
            simp only [Act.put, List.getElem_toArray, List.getElem_cons_zero, List.getElem_cons_succ, List.setIfInBounds_toArray, List.set_cons_zero, List.set_cons_succ]
            refine wpAnyH_all (rs := [6, 10]) (by kernel_rfl) (by simp) (fun j hj => ?_)
            rcases List.mem_cons.1 hj with rfl | hj
            · skip
              refine Or.inl ?_
              go_wp2_with fail
              refine (HR.out _ hC0).mono ?_
              rintro e x10 ⟨sv1, rv1, ov1, uv1, rfl, hv, hb1⟩
              have hC1 := hQn _ _ hC0 hb1
              obtain ⟨sa1, sc1, rfl⟩ := hv.store.vshape
              obtain ⟨⟨ra1, rc1⟩, rfl⟩ := hv.refs.shape
              obtain ⟨oa1, oc1, rfl⟩ := hv.objs.vshape
              obtain ⟨⟨ua1, uc1⟩, rfl⟩ := hv.upds.shape
              have hx0 := (hQb _ hC0).size
              have Hv := Lib.hid (hv.lt.weaken (S' := fun b => ((S b ∧ b < w.heap.size) ∨ x0.heap.size ≤ b) ∧ b < x10.heap.size) fun b hb => by
                refine ⟨?_, hb.2⟩
                rcases hb.1 with (h | h) | h
                · exact .inl h
                · exact .inl h
                · exact .inr h)
              clear hv
              simp only [repV]
              go_simp
              clear hb1
              generalize x10 = x1 at *
              refine wpAnyH_take (i := 7) (v := .tuple #[.agg #[.slice sa1 rr.store.length sc1, .slice ra1 rr.refs.length rc1, .int .i64 rr.gen, .int .i64 rr.phase, .slice oa1 rr.pend.objects.length oc1, .slice ua1 rr.pend.updates.length uc1, .bool rr.pend.force], .int .i64 re]) rfl (by kernel_rfl) (by kernel_rfl) (by kernel_rfl) (fun _ _ _ h => h) (Or.inl ⟨by rfl, fun w hSw => ?_⟩) hC1 ?_
              · go_simp
              simp only [Act.put, List.getElem_toArray, List.getElem_cons_zero, List.getElem_cons_succ, List.setIfInBounds_toArray, List.set_cons_zero, List.set_cons_succ]
              refine wpAnyH_take (i := 8) (v := .agg #[.slice sa1 rr.store.length sc1, .slice ra1 rr.refs.length rc1, .int .i64 rr.gen, .int .i64 rr.phase, .slice oa1 rr.pend.objects.length oc1, .slice ua1 rr.pend.updates.length uc1, .bool rr.pend.force]) rfl (by kernel_rfl) (by kernel_rfl) (by kernel_rfl) (fun _ _ _ h => h) (Or.inl ⟨by rfl, fun w hSw => ?_⟩) hC1 ?_
              · go_simp
              simp only [Act.put, List.getElem_toArray, List.getElem_cons_zero, List.getElem_cons_succ, List.setIfInBounds_toArray, List.set_cons_zero, List.set_cons_succ]
              refine wpAnyH_take (i := 9) (v := .int .i64 re) rfl (by kernel_rfl) (by kernel_rfl) (by kernel_rfl) (fun _ _ _ h => h) (Or.inl ⟨by rfl, fun w hSw => ?_⟩) hC1 ?_
              · go_simp
              simp only [Act.put, List.getElem_toArray, List.getElem_cons_zero, List.getElem_cons_succ, List.setIfInBounds_toArray, List.set_cons_zero, List.set_cons_succ]
              refine wpAnyH_all (rs := [10]) (by kernel_rfl) (by simp) (fun j hj => ?_)
              obtain rfl : j = 10 := by simpa using hj
              refine Or.inl ?_
              have Hv2 := Lib.hid ((Hv.out.below ((Below.refl _ _).alloc (Nat.le_refl _) (.cells #[.slice none 0 0, .slice none 0 0, .int .i64 0, .int .i64 0, .slice none 0 0, .slice none 0 0, .bool false] 28))).weaken (S' := fun b => (((S b ∧ b < w.heap.size) ∨ wo.heap.size ≤ b) ∧ b < (x1.alloc (.cells #[.slice none 0 0, .slice none 0 0, .int .i64 0, .int .i64 0, .slice none 0 0, .slice none 0 0, .bool false] 28)).heap.size) ∧ b ≠ x1.heap.size) fun b hb => ⟨⟨hb.1.imp id (fun h => by have := (hQb _ hC1).size; omega), by simp; omega⟩, by omega⟩)
              clear Hv
              have HDl := Lib.hid (show x1.heap.size < (x1.alloc (.cells #[.slice none 0 0, .slice none 0 0, .int .i64 0, .int .i64 0, .slice none 0 0, .slice none 0 0, .bool false] 28)).heap.size by simp)
              have hC2 := hQ.alloc _ (.cells #[.slice none 0 0, .slice none 0 0, .int .i64 0, .int .i64 0, .slice none 0 0, .slice none 0 0, .bool false] 28) hC1
              go_simp
              have hbA : Below x1.heap.size x1 (x1.alloc (.cells #[.slice none 0 0, .slice none 0 0, .int .i64 0, .int .i64 0, .slice none 0 0, .slice none 0 0, .bool false] 28)) := (Below.refl _ _).alloc (Nat.le_refl _) _
              have HDb := Lib.hid (heap_alloc_new x1 (.cells #[.slice none 0 0, .slice none 0 0, .int .i64 0, .int .i64 0, .slice none 0 0, .slice none 0 0, .bool false] 28))
              have HDge := Lib.hid (hQb _ hC1).size
              clear hbA
              generalize x1.heap.size = D at *
              generalize x1.alloc (.cells #[.slice none 0 0, .slice none 0 0, .int .i64 0, .int .i64 0, .slice none 0 0, .slice none 0 0, .bool false] 28) = x2 at *
              refine wpAnyH_all (rs := [11]) (by kernel_rfl) (by simp) (fun j hj => ?_)
              obtain rfl : j = 11 := by simpa using hj
              refine Or.inl ?_
              have hblk := HDb.out
              have g0 := block_cell (j := 0) hblk rfl
              have g1 := block_cell (j := 1) hblk rfl
              have g2 := block_cell (j := 2) hblk rfl
              have g3 := block_cell (j := 3) hblk rfl
              have g4 := block_cell (j := 4) hblk rfl
              have g5 := block_cell (j := 5) hblk rfl
              have g6 := block_cell (j := 6) hblk rfl
              have f0 := block_free (j := 0) hblk
              have f1 := block_free (j := 1) hblk
              have f2 := block_free (j := 2) hblk
              have f3 := block_free (j := 3) hblk
              have f4 := block_free (j := 4) hblk
              have f5 := block_free (j := 5) hblk
              have f6 := block_free (j := 6) hblk
              have Hb7 := Lib.hid (set7_is (v0 := .slice sa1 rr.store.length sc1) (v1 := .slice ra1 rr.refs.length rc1) (v2 := .int .i64 rr.gen) (v3 := .int .i64 rr.phase) (v4 := .slice oa1 rr.pend.objects.length oc1) (v5 := .slice ua1 rr.pend.updates.length uc1) (v6 := .bool rr.pend.force) hblk)
              have Hu7 := Lib.hid (set7_upd D (.slice sa1 rr.store.length sc1) (.slice ra1 rr.refs.length rc1) (.int .i64 rr.gen) (.int .i64 rr.phase) (.slice oa1 rr.pend.objects.length oc1) (.slice ua1 rr.pend.updates.length uc1) (.bool rr.pend.force) x2)
              have hQ7 := HQu.out _ _ _ hC2 Hu7.out (fun b hb => by have := HDge.out; omega)
              have Hv7 := Lib.hid ((Hv2.out.upd Hu7.out (fun b hb e => hb.2 e)).weaken (S' := fun b => ((S b ∧ b < w.heap.size) ∨ wo.heap.size ≤ b) ∧ b < (set7 D (.slice sa1 rr.store.length sc1) (.slice ra1 rr.refs.length rc1) (.int .i64 rr.gen) (.int .i64 rr.phase) (.slice oa1 rr.pend.objects.length oc1) (.slice ua1 rr.pend.updates.length uc1) (.bool rr.pend.force) x2).heap.size) fun b hb => ⟨hb.1.1, by have := Hu7.out.size; omega⟩)
              go_wp2_with fail
              first | refine ⟨hQ7, ?_⟩ | skip
              change wpAnyH _ _ _ _ _ _ _ _ (set7 D (.slice sa1 rr.store.length sc1) (.slice ra1 rr.refs.length rc1) (.int .i64 rr.gen) (.int .i64 rr.phase) (.slice oa1 rr.pend.objects.length oc1) (.slice ua1 rr.pend.updates.length uc1) (.bool rr.pend.force) x2)
              generalize set7 D (.slice sa1 rr.store.length sc1) (.slice ra1 rr.refs.length rc1) (.int .i64 rr.gen) (.int .i64 rr.phase) (.slice oa1 rr.pend.objects.length oc1) (.slice ua1 rr.pend.updates.length uc1) (.bool rr.pend.force) x2 = w7 at *
              clear g0 g1 g2 g3 g4 g5 g6 f0 f1 f2 f3 f4 f5 f6 hblk Hu7
              refine wpAnyH_all (rs := [12]) (by kernel_rfl) (by simp) (fun j hj => ?_)
              obtain rfl : j = 12 := by simpa using hj
              refine Or.inl ?_
              go_wp2_with fail
              first | refine ⟨hQ7, by kernel_rfl, ?_⟩ | refine ⟨by kernel_rfl, ?_⟩
              have HEnd := Lib.hid (show In Q w7 ∧ wo.heap.size ≤ D ∧ ∃ sa1 sc1 ra1 rc1 oa1 oc1 ua1 uc1, w7.heap[D]? = some (.cells #[.slice sa1 rr.store.length sc1, .slice ra1 rr.refs.length rc1, .int .i64 rr.gen, .int .i64 rr.phase, .slice oa1 rr.pend.objects.length oc1, .slice ua1 rr.pend.updates.length uc1, .bool rr.pend.force] 28 (0, 0)) ∧ RepIs (fun b => ((S b ∧ b < w.heap.size) ∨ wo.heap.size ≤ b) ∧ b < w7.heap.size) w7 rr (.slice sa1 rr.store.length sc1) (.slice ra1 rr.refs.length rc1) (.slice oa1 rr.pend.objects.length oc1) (.slice ua1 rr.pend.updates.length uc1) from ⟨hQ7, HDge.out, sa1, sc1, ra1, rc1, oa1, oc1, ua1, uc1, Hb7.out, Hv7.out⟩)
              go_wp2_with fail
              go_meet
              exact ⟨D, rfl, rfl, w7, rfl, HEnd⟩
            · skip
              obtain rfl : j = 10 := by simpa using hj
              refine Or.inl ?_
              have HDl := Lib.hid (show x0.heap.size < (x0.alloc (.cells #[.slice none 0 0, .slice none 0 0, .int .i64 0, .int .i64 0, .slice none 0 0, .slice none 0 0, .bool false] 28)).heap.size by simp)
              have hC1 := hQ.alloc _ (.cells #[.slice none 0 0, .slice none 0 0, .int .i64 0, .int .i64 0, .slice none 0 0, .slice none 0 0, .bool false] 28) hC0
              go_simp
              have hbA : Below x0.heap.size x0 (x0.alloc (.cells #[.slice none 0 0, .slice none 0 0, .int .i64 0, .int .i64 0, .slice none 0 0, .slice none 0 0, .bool false] 28)) := (Below.refl _ _).alloc (Nat.le_refl _) _
              have HDb := Lib.hid (heap_alloc_new x0 (.cells #[.slice none 0 0, .slice none 0 0, .int .i64 0, .int .i64 0, .slice none 0 0, .slice none 0 0, .bool false] 28))
              have HDge := Lib.hid (hQb _ hC0).size
              clear hbA
              generalize x0.heap.size = D at *
              generalize x0.alloc (.cells #[.slice none 0 0, .slice none 0 0, .int .i64 0, .int .i64 0, .slice none 0 0, .slice none 0 0, .bool false] 28) = x1 at *
              refine wpAnyH_all (rs := [6]) (by kernel_rfl) (by simp) (fun j hj => ?_)
              obtain rfl : j = 6 := by simpa using hj
              refine Or.inl ?_
              go_wp2_with fail
              refine (HR.out _ hC1).mono ?_
              rintro e x11 ⟨sv1, rv1, ov1, uv1, rfl, hv, hb1⟩
              have hC2 := hQn _ _ hC1 hb1
              obtain ⟨sa1, sc1, rfl⟩ := hv.store.vshape
              obtain ⟨⟨ra1, rc1⟩, rfl⟩ := hv.refs.shape
              obtain ⟨oa1, oc1, rfl⟩ := hv.objs.vshape
              obtain ⟨⟨ua1, uc1⟩, rfl⟩ := hv.upds.shape
              replace HDb := Lib.hid (blk_below HDb.out hb1)
              have hx0 := (hQb _ hC1).size
              have Hv := Lib.hid (hv.lt.weaken (S' := fun b => ((S b ∧ b < w.heap.size) ∨ x1.heap.size ≤ b) ∧ b < x11.heap.size) fun b hb => by
                refine ⟨?_, hb.2⟩
                rcases hb.1 with (h | h) | h
                · exact .inl h
                · exact .inl h
                · exact .inr h)
              have HDx := Lib.hid (show D < x1.heap.size from HDl.out)
              clear hv
              simp only [repV]
              go_simp
              have Hv2 := Lib.hid (Hv.out.weaken (S' := fun b => (((S b ∧ b < w.heap.size) ∨ wo.heap.size ≤ b) ∧ b < x11.heap.size) ∧ b ≠ D) fun b hb => ⟨⟨hb.1.imp id (fun h => by omega), hb.2⟩, fun e => by have := HDx.out; have := HDge.out; have := HA.out.bel.size; rcases hb.1 with h | h <;> omega⟩)
              clear hb1
              generalize x11 = x2 at *
              refine wpAnyH_take (i := 7) (v := .tuple #[.agg #[.slice sa1 rr.store.length sc1, .slice ra1 rr.refs.length rc1, .int .i64 rr.gen, .int .i64 rr.phase, .slice oa1 rr.pend.objects.length oc1, .slice ua1 rr.pend.updates.length uc1, .bool rr.pend.force], .int .i64 re]) rfl (by kernel_rfl) (by kernel_rfl) (by kernel_rfl) (fun _ _ _ h => h) (Or.inl ⟨by rfl, fun w hSw => ?_⟩) hC2 ?_
              · go_simp
              simp only [Act.put, List.getElem_toArray, List.getElem_cons_zero, List.getElem_cons_succ, List.setIfInBounds_toArray, List.set_cons_zero, List.set_cons_succ]
              refine wpAnyH_take (i := 8) (v := .agg #[.slice sa1 rr.store.length sc1, .slice ra1 rr.refs.length rc1, .int .i64 rr.gen, .int .i64 rr.phase, .slice oa1 rr.pend.objects.length oc1, .slice ua1 rr.pend.updates.length uc1, .bool rr.pend.force]) rfl (by kernel_rfl) (by kernel_rfl) (by kernel_rfl) (fun _ _ _ h => h) (Or.inl ⟨by rfl, fun w hSw => ?_⟩) hC2 ?_
              · go_simp
              simp only [Act.put, List.getElem_toArray, List.getElem_cons_zero, List.getElem_cons_succ, List.setIfInBounds_toArray, List.set_cons_zero, List.set_cons_succ]
              refine wpAnyH_take (i := 9) (v := .int .i64 re) rfl (by kernel_rfl) (by kernel_rfl) (by kernel_rfl) (fun _ _ _ h => h) (Or.inl ⟨by rfl, fun w hSw => ?_⟩) hC2 ?_
              · go_simp
              simp only [Act.put, List.getElem_toArray, List.getElem_cons_zero, List.getElem_cons_succ, List.setIfInBounds_toArray, List.set_cons_zero, List.set_cons_succ]
              refine wpAnyH_all (rs := [11]) (by kernel_rfl) (by simp) (fun j hj => ?_)
              obtain rfl : j = 11 := by simpa using hj
              refine Or.inl ?_
              have hblk := HDb.out
              have g0 := block_cell (j := 0) hblk rfl
              have g1 := block_cell (j := 1) hblk rfl
              have g2 := block_cell (j := 2) hblk rfl
              have g3 := block_cell (j := 3) hblk rfl
              have g4 := block_cell (j := 4) hblk rfl
              have g5 := block_cell (j := 5) hblk rfl
              have g6 := block_cell (j := 6) hblk rfl
              have f0 := block_free (j := 0) hblk
              have f1 := block_free (j := 1) hblk
              have f2 := block_free (j := 2) hblk
              have f3 := block_free (j := 3) hblk
              have f4 := block_free (j := 4) hblk
              have f5 := block_free (j := 5) hblk
              have f6 := block_free (j := 6) hblk
              have Hb7 := Lib.hid (set7_is (v0 := .slice sa1 rr.store.length sc1) (v1 := .slice ra1 rr.refs.length rc1) (v2 := .int .i64 rr.gen) (v3 := .int .i64 rr.phase) (v4 := .slice oa1 rr.pend.objects.length oc1) (v5 := .slice ua1 rr.pend.updates.length uc1) (v6 := .bool rr.pend.force) hblk)
              have Hu7 := Lib.hid (set7_upd D (.slice sa1 rr.store.length sc1) (.slice ra1 rr.refs.length rc1) (.int .i64 rr.gen) (.int .i64 rr.phase) (.slice oa1 rr.pend.objects.length oc1) (.slice ua1 rr.pend.updates.length uc1) (.bool rr.pend.force) x2)
              have hQ7 := HQu.out _ _ _ hC2 Hu7.out (fun b hb => by have := HDge.out; omega)
              have Hv7 := Lib.hid ((Hv2.out.upd Hu7.out (fun b hb e => hb.2 e)).weaken (S' := fun b => ((S b ∧ b < w.heap.size) ∨ wo.heap.size ≤ b) ∧ b < (set7 D (.slice sa1 rr.store.length sc1) (.slice ra1 rr.refs.length rc1) (.int .i64 rr.gen) (.int .i64 rr.phase) (.slice oa1 rr.pend.objects.length oc1) (.slice ua1 rr.pend.updates.length uc1) (.bool rr.pend.force) x2).heap.size) fun b hb => ⟨hb.1.1, by have := Hu7.out.size; omega⟩)
              go_wp2_with fail
              first | refine ⟨hQ7, ?_⟩ | skip
              change wpAnyH _ _ _ _ _ _ _ _ (set7 D (.slice sa1 rr.store.length sc1) (.slice ra1 rr.refs.length rc1) (.int .i64 rr.gen) (.int .i64 rr.phase) (.slice oa1 rr.pend.objects.length oc1) (.slice ua1 rr.pend.updates.length uc1) (.bool rr.pend.force) x2)
              generalize set7 D (.slice sa1 rr.store.length sc1) (.slice ra1 rr.refs.length rc1) (.int .i64 rr.gen) (.int .i64 rr.phase) (.slice oa1 rr.pend.objects.length oc1) (.slice ua1 rr.pend.updates.length uc1) (.bool rr.pend.force) x2 = w7 at *
              clear g0 g1 g2 g3 g4 g5 g6 f0 f1 f2 f3 f4 f5 f6 hblk Hu7
              refine wpAnyH_all (rs := [12]) (by kernel_rfl) (by simp) (fun j hj => ?_)
              obtain rfl : j = 12 := by simpa using hj
              refine Or.inl ?_
              go_wp2_with fail
              first | refine ⟨hQ7, by kernel_rfl, ?_⟩ | refine ⟨by kernel_rfl, ?_⟩
              have HEnd := Lib.hid (show In Q w7 ∧ wo.heap.size ≤ D ∧ ∃ sa1 sc1 ra1 rc1 oa1 oc1 ua1 uc1, w7.heap[D]? = some (.cells #[.slice sa1 rr.store.length sc1, .slice ra1 rr.refs.length rc1, .int .i64 rr.gen, .int .i64 rr.phase, .slice oa1 rr.pend.objects.length oc1, .slice ua1 rr.pend.updates.length uc1, .bool rr.pend.force] 28 (0, 0)) ∧ RepIs (fun b => ((S b ∧ b < w.heap.size) ∨ wo.heap.size ≤ b) ∧ b < w7.heap.size) w7 rr (.slice sa1 rr.store.length sc1) (.slice ra1 rr.refs.length rc1) (.slice oa1 rr.pend.objects.length oc1) (.slice ua1 rr.pend.updates.length uc1) from ⟨hQ7, HDge.out, sa1, sc1, ra1, rc1, oa1, oc1, ua1, uc1, Hb7.out, Hv7.out⟩)
              go_wp2_with fail
              go_meet
              exact ⟨D, rfl, rfl, w7, rfl, HEnd⟩
          case rest =>
            obtain ⟨D9, rfl, rfl, y9, rfl, HK9⟩ := hcut
            obtain ⟨hQ9, hD9, sa1, sc1, ra1, rc1, oa1, oc1, ua1, uc1, hb9, hv9⟩ := HK9.out
            have HA9 := Lib.hid (HA.out.below (hQb _ hQ9))
            have HD9 := Lib.hid (blk_below HD.out (hQb _ hQ9))
            have Hv9 := Lib.hid hv9
            have hgg := HA.out.gge
            have Hb9 := Lib.hid hb9
            clear HK9 hv9 HA HD hb9 HQu HR c0 e0 e1 e2 e3 e4 e5 e6 d0 d1 d2 d3 d4 d5 d6
            by_cases hz : re = 0
            case neg =>
              have HE2 := Lib.hid (HLs.out re HnE.out hz)
              have HEE := Lib.hid (show allE l = re by rw [HE.out]; exact HE2.out)
              have HL2 := Lib.hid (show allL l = [] by rw [HL.out, HEE.out, if_neg hz])
              have HN2 := Lib.hid (show allN l = 0 by rw [HN.out, HEE.out, if_neg hz])
              have hq2 : (re != 0) = true := by simpa using hz
              clear hz HE2
              have hA := HA9.out
              have g0 := block_cell (j := 0) hA.out rfl
              have f0 := block_free (j := 0) hA.out
              have hu5 : Upd (fun b => b = w.heap.size + 1) y9 (y9.setCell ⟨w.heap.size + 1, 0, none⟩ (.slice none 0 0)) := (Upd.refl (fun b => b = w.heap.size + 1) y9).setCell (p := ⟨w.heap.size + 1, 0, none⟩) (fun _ => rfl) _
              have hk5 : (y9.setCell ⟨w.heap.size + 1, 0, none⟩ (.slice none 0 0)).heap[w.heap.size + 1]? = some (.cells #[.slice none 0 0] 31 (0, 0)) := block_setCell (j := 0) hA.out (.slice none 0 0)
              have HP := Lib.hid (hA.bel.trans (hu5.below (B := w.heap.size) hA.bel.size (fun b hb => by omega)))
              have Hk5 := Lib.hid hk5
              clear hu5 hA hk5
              go_wp2_with fail
              have hk5 := Hk5.out
              obtain ⟨w9, hw9⟩ : ∃ w9, w9 = y9.setCell ⟨w.heap.size + 1, 0, none⟩ (.slice none 0 0) := ⟨_, rfl⟩
              rw [← hw9] at hk5 HP ⊢
              have j0 := block_cell (j := 0) hk5 rfl
              refine bodyPost_ret (v := .tuple #[.agg #[.slice none 0 0], .int .i64 0, .int .i64 re]) (by simp [results, Try.results12, go_sem]; simp [j0] <;> rfl) rfl ?_
              exact ⟨_, by rw [HN2.out, HEE.out]; rfl, by rw [HL2.out]; exact RepsV.nil _ _ _ _ (by omega), HP.out⟩
            case pos =>
              subst hz
              have Hs2 := Lib.hid (show scan (mendErr l b) (k + 1) = 0 from scan_next Hs.out HnE.out)
              have hA := HA9.out
              obtain ⟨a9, n9, cap9, fr9, HN9, e9, _, _, _, h49, h59⟩ := (hA.row.any (by have := HLl.out; omega)).open
              cases e9
              obtain ⟨b9, off9, e9, _, k0, k1, k2, k3, k4, k5, k6⟩ := h49 (by omega)
              cases e9
              simp only [Nat.zero_add] at k0 k1 k2 k3 k4 k5 k6
              have o0 := k0 k _ hlt (Below.refl _ _)
              have o1 := k1 k _ hlt (Below.refl _ _)
              have o2 := k2 k _ hlt (Below.refl _ _)
              have o3 := k3 k _ hlt (Below.refl _ _)
              have o4 := k4 k _ hlt (Below.refl _ _)
              have o5 := k5 k _ hlt (Below.refl _ _)
              have o6 := k6 k _ hlt (Below.refl _ _)
              have f0 := hA.row.free (k * 7)
              have f1 := hA.row.free (k * 7 + 1)
              have f2 := hA.row.free (k * 7 + 2)
              have f3 := hA.row.free (k * 7 + 3)
              have f4 := hA.row.free (k * 7 + 4)
              have f5 := hA.row.free (k * 7 + 5)
              have f6 := hA.row.free (k * 7 + 6)
              have v0 := block_cell (j := 0) Hb9.out rfl
              have v1 := block_cell (j := 1) Hb9.out rfl
              have v2 := block_cell (j := 2) Hb9.out rfl
              have v3 := block_cell (j := 3) Hb9.out rfl
              have v4 := block_cell (j := 4) Hb9.out rfl
              have v5 := block_cell (j := 5) Hb9.out rfl
              have v6 := block_cell (j := 6) Hb9.out rfl
              have b5 := block_cell (j := 0) hA.box rfl
              have hset := hA.set (by omega) (i := k) (by rw [HLl.out]; exact hlt) (r := rr) (x := ⟨.slice sa1 rr.store.length sc1, .slice ra1 rr.refs.length rc1, .slice oa1 rr.pend.objects.length oc1, .slice ua1 rr.pend.updates.length uc1⟩) (RepIs.weaken Hv9.out (S' := fun b => ((S b ∧ b < w.heap.size) ∨ wo.heap.size ≤ b) ∧ b < y9.heap.size) fun b hb => hb) (fun b hb => ⟨hb.2, fun e => by rcases hb.1 with h | h <;> omega, hb.1.imp id (fun h => by omega)⟩)
              obtain ⟨w9, hw9⟩ : ∃ w9, w9 = y9.setCells g (k * 7) (repC rr ⟨.slice sa1 rr.store.length sc1, .slice ra1 rr.refs.length rc1, .slice oa1 rr.pend.objects.length oc1, .slice ua1 rr.pend.updates.length uc1⟩) := ⟨_, rfl⟩
              rw [← hw9] at hset
              have HI2 := Lib.hid (show RowAt S w (.slice (some ⟨b0, off0, none⟩) 3 cap) g c4 D5 (mendTo l b (k + 1)) w9 ∧ w9.heap[D6]? = some (.cells #[.slice (fr b).sa (rep l b).store.length (fr b).sc, .slice (fr b).ra (rep l b).refs.length (fr b).rc, .int .i64 (rep l b).gen, .int .i64 (rep l b).phase, .slice (fr b).oa (rep l b).pend.objects.length (fr b).oc, .slice (fr b).ua (rep l b).pend.updates.length (fr b).uc, .bool (rep l b).pend.force] 28 (0, 0)) from ⟨by rw [HnT.out]; exact hset.1, hset.2.blk HD9.out (by omega)⟩)
              rw [show repC rr ⟨.slice sa1 rr.store.length sc1, .slice ra1 rr.refs.length rc1, .slice oa1 rr.pend.objects.length oc1, .slice ua1 rr.pend.updates.length uc1⟩ = [.slice sa1 rr.store.length sc1, .slice ra1 rr.refs.length rc1, .int .i64 rr.gen, .int .i64 rr.phase, .slice oa1 rr.pend.objects.length oc1, .slice ua1 rr.pend.updates.length uc1, .bool rr.pend.force] from rfl, setCells7] at hw9
              have Hw9 := Lib.hid hw9
              have hw2 := wrap_in (n := (mn : Int) + 1) (by omega)
              clear hset hw9 hA h49 h59 HN9 Hb9 HD9 HA9 Hv9 k0 k1 k2 k3 k4 k5 k6
              go_wp2_with fail
              rw [← Hw9.out]
              go_roundw
              case rel => exact ⟨k + 1, by omega, by go_num, by rw [HnN.out]; rfl, Hs2.out, HI2.out⟩
              case measure => simp [intOf]; omega
end Go.Proofs.Ytjkbaallfkjmhaa
