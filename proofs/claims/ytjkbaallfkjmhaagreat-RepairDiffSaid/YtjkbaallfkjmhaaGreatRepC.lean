
/- RepC: walks of repair.From, replicaIs. -/
import Derived.Test.YtjkbaallfkjmhaaGreatRepB
namespace Go.Proofs.YtjkbaallfkjmhaaGreat
open Go.RowKit
set_option linter.unusedVariables false
set_option linter.unusedSimpArgs false

theorem foldl_below : ∀ (os : List Go.Obj) (w : World), Below w.heap.size w (os.foldl World.alloc w)
  | [], w => Below.refl _ _
  | o :: os, w => Below.trans ((Below.refl w.heap.size w).alloc (Nat.le_refl _) o) ((foldl_below os (w.alloc o)).mono (by simp))
theorem foldl_size : ∀ (os : List Go.Obj) (w : World), (os.foldl World.alloc w).heap.size = w.heap.size + os.length
  | [], w => rfl
  | o :: os, w => by rw [List.foldl_cons, foldl_size os]; simp; omega
theorem foldl_get : ∀ (os : List Go.Obj) (w : World) (j : Nat) (o : Go.Obj), os[j]? = some o → (os.foldl World.alloc w).heap[w.heap.size + j]? = some o
  | [], w, j, o, h => by simp at h
  | o' :: os, w, 0, o, h => by
    obtain rfl : o' = o := by simpa using h
    rw [List.foldl_cons, (foldl_below os (w.alloc o')).block _ (by simp)]
    exact heap_alloc_new w o'
  | o' :: os, w, j + 1, o, h => by
    have := foldl_get os (w.alloc o') j o (by simpa using h)
    rw [List.foldl_cons, show w.heap.size + (j + 1) = (w.alloc o').heap.size + j by simp; omega]
    exact this
/-- behind some new blocks, which nobody writes any more -/
theorem cls_allocs (w : World) (os : List Go.Obj) : ∃ R : World → Prop, Cls w R ∧ In R (os.foldl World.alloc w) ∧ ∀ x, In R x → ∀ j o, os[j]? = some o → x.heap[w.heap.size + j]? = some o := by
  refine ⟨_, cls_of w (os.foldl World.alloc w) (w.heap.size + os.length) (by omega) (by rw [foldl_size]; exact Nat.le_refl _) (foldl_below os w), Below.refl _ _, fun x hx j o hj => ?_⟩
  have hlt := (List.getElem?_eq_some_iff.1 hj).1
  rw [Below.block hx _ (by omega)]
  exact foldl_get os w j o hj

theorem RepIs.upd {S T : Nat → Prop} {w w' : World} {r : Rep} {sv rv ov uv : Value} (h : RepIs S w r sv rv ov uv) (hu : Upd T w w') (hT : ∀ b, S b → ¬ T b) : RepIs S w' r sv rv ov uv :=
  ⟨h.store.upd' hu hT, h.refs.upd hu hT, h.objs.upd' hu hT, h.upds.upd hu hT, h.gen, h.phase⟩
theorem repCheck_store {r : Rep} (h : repCheck r = 0) : checkStore r.store = 0 := by
  unfold repCheck at h
  split at h
  · rename_i h1; exact absurd h h1
  · rename_i h1
    have h2 : checkRefs r.refs r.store = 0 := by simpa using h1
    unfold checkRefs at h2
    split at h2
    · rename_i h3; exact absurd h2 h3
    · rename_i h3; simpa using h3


set_option maxRecDepth 100000 in
set_option maxHeartbeats 2000000 in
theorem from_any (n r : Rep) (sv rv ov uv sv2 rv2 ov2 uv2 : Value) (S S' : Nat → Prop) (w : World) (h : RepIs S w n sv rv ov uv) (h2 : RepIs S' w r sv2 rv2 ov2 uv2) :
    Calls Tryz.prog 4 #[repV n sv rv ov uv, repV r sv2 rv2 ov2 uv2] w fun e w' => RetRepF w w' e (fromR n r) (fromE n r) := by
  have HE := Lib.hid (show fromE n r = if repCheck n ≠ 0 then repCheck n else if repCheck r ≠ 0 then repCheck r else repairE n r from rfl)
  have HR := Lib.hid (show fromR n r = if fromE n r = 0 then repairR n r else rep0 from rfl)
  have HR0 := Lib.hid (fun (h : repairE n r ≠ 0) => show repairR n r = rep0 by unfold repairR; rw [if_neg h])
  have H := Lib.hid h
  have G := Lib.hid h2
  have Hcn := Lib.hid (fun (h : repCheck n = 0) => repCheck_store h)
  have Hcr := Lib.hid (fun (h : repCheck r = 0) => repCheck_store h)
  obtain ⟨sa, sc, rfl⟩ := h.store.vshape
  obtain ⟨⟨ra, rc⟩, rfl⟩ := h.refs.shape
  obtain ⟨oa, oc, rfl⟩ := h.objs.vshape
  obtain ⟨⟨ua, uc⟩, rfl⟩ := h.upds.shape
  obtain ⟨sa2, sc2, rfl⟩ := h2.store.vshape
  obtain ⟨⟨ra2, rc2⟩, rfl⟩ := h2.refs.shape
  obtain ⟨oa2, oc2, rfl⟩ := h2.objs.vshape
  obtain ⟨⟨ua2, uc2⟩, rfl⟩ := h2.upds.shape
  clear h h2
  simp only [repV]
  obtain ⟨Q, hQ, hQ1, HB0⟩ := cls_allocs w [.cells #[.slice sa n.store.length sc, .slice ra n.refs.length rc, .int .i64 n.gen, .int .i64 n.phase, .slice oa n.pend.objects.length oc, .slice ua n.pend.updates.length uc, .bool n.pend.force] 28, .cells #[.slice sa2 r.store.length sc2, .slice ra2 r.refs.length rc2, .int .i64 r.gen, .int .i64 r.phase, .slice oa2 r.pend.objects.length oc2, .slice ua2 r.pend.updates.length uc2, .bool r.pend.force] 28, .cells #[.slice none 0 0, .slice none 0 0, .int .i64 0, .int .i64 0, .slice none 0 0, .slice none 0 0, .bool false] 28, .cells #[.slice sa n.store.length sc, .slice ra n.refs.length rc, .int .i64 n.gen, .int .i64 n.phase, .slice oa n.pend.objects.length oc, .slice ua n.pend.updates.length uc, .bool n.pend.force, .slice sa2 r.store.length sc2, .slice ra2 r.refs.length rc2, .int .i64 r.gen, .int .i64 r.phase, .slice oa2 r.pend.objects.length oc2, .slice ua2 r.pend.updates.length uc2, .bool r.pend.force] 28]
  simp only [List.foldl] at hQ1
  have hQn := hQ.next
  have hQb := hQ.below
  have HZ := Lib.hid (fun x (hx : In Q x) => show x.heap[w.heap.size + 2]? = some (.cells zero7 28 (0, 0)) from HB0 x hx 2 _ rfl)
  have HC := Lib.hid (fun x (hx : In Q x) => repCheck_any n _ _ _ _ _ x (H.out.below (hQb _ hx)))
  have HD := Lib.hid (fun x (hx : In Q x) => repCheck_any r _ _ _ _ _ x (G.out.below (hQb _ hx)))
  simp only [repV] at HC HD
  have HW := Lib.hid (fun x (hx : In Q x) (h1 : repCheck n = 0) (h2 : repCheck r = 0) => repairRaw_any n r _ _ _ _ _ _ _ _ _ _ x (H.out.below (hQb _ hx)) (G.out.below (hQb _ hx)) ((checkStore_zero (Hcn.out h1)).1) (Hcr.out h2))
  simp only [repV] at HW
  have y0 := fun x (hx : In Q x) => block_cell (j := 0) (HB0 x hx 0 _ rfl) rfl
  have y1 := fun x (hx : In Q x) => block_cell (j := 1) (HB0 x hx 0 _ rfl) rfl
  have y2 := fun x (hx : In Q x) => block_cell (j := 2) (HB0 x hx 0 _ rfl) rfl
  have y3 := fun x (hx : In Q x) => block_cell (j := 3) (HB0 x hx 0 _ rfl) rfl
  have y4 := fun x (hx : In Q x) => block_cell (j := 4) (HB0 x hx 0 _ rfl) rfl
  have y5 := fun x (hx : In Q x) => block_cell (j := 5) (HB0 x hx 0 _ rfl) rfl
  have y6 := fun x (hx : In Q x) => block_cell (j := 6) (HB0 x hx 0 _ rfl) rfl
  have z0 := fun x (hx : In Q x) => block_cell (j := 0) (HB0 x hx 1 _ rfl) rfl
  have z1 := fun x (hx : In Q x) => block_cell (j := 1) (HB0 x hx 1 _ rfl) rfl
  have z2 := fun x (hx : In Q x) => block_cell (j := 2) (HB0 x hx 1 _ rfl) rfl
  have z3 := fun x (hx : In Q x) => block_cell (j := 3) (HB0 x hx 1 _ rfl) rfl
  have z4 := fun x (hx : In Q x) => block_cell (j := 4) (HB0 x hx 1 _ rfl) rfl
  have z5 := fun x (hx : In Q x) => block_cell (j := 5) (HB0 x hx 1 _ rfl) rfl
  have z6 := fun x (hx : In Q x) => block_cell (j := 6) (HB0 x hx 1 _ rfl) rfl
  have b0 := fun x (hx : In Q x) => block_cell (j := 0) (HB0 x hx 3 _ rfl) rfl
  have b1 := fun x (hx : In Q x) => block_cell (j := 1) (HB0 x hx 3 _ rfl) rfl
  have b2 := fun x (hx : In Q x) => block_cell (j := 2) (HB0 x hx 3 _ rfl) rfl
  have b3 := fun x (hx : In Q x) => block_cell (j := 3) (HB0 x hx 3 _ rfl) rfl
  have b4 := fun x (hx : In Q x) => block_cell (j := 4) (HB0 x hx 3 _ rfl) rfl
  have b5 := fun x (hx : In Q x) => block_cell (j := 5) (HB0 x hx 3 _ rfl) rfl
  have b6 := fun x (hx : In Q x) => block_cell (j := 6) (HB0 x hx 3 _ rfl) rfl
  have b7 := fun x (hx : In Q x) => block_cell (j := 7) (HB0 x hx 3 _ rfl) rfl
  have b8 := fun x (hx : In Q x) => block_cell (j := 8) (HB0 x hx 3 _ rfl) rfl
  have b9 := fun x (hx : In Q x) => block_cell (j := 9) (HB0 x hx 3 _ rfl) rfl
  have b10 := fun x (hx : In Q x) => block_cell (j := 10) (HB0 x hx 3 _ rfl) rfl
  have b11 := fun x (hx : In Q x) => block_cell (j := 11) (HB0 x hx 3 _ rfl) rfl
  have b12 := fun x (hx : In Q x) => block_cell (j := 12) (HB0 x hx 3 _ rfl) rfl
  have b13 := fun x (hx : In Q x) => block_cell (j := 13) (HB0 x hx 3 _ rfl) rfl
  simp only [Nat.add_zero] at y0 y1 y2 y3 y4 y5 y6 z0 z1 z2 z3 z4 z5 z6
  clear HB0
  generalize hen : repCheck n = en at *
  generalize her : repCheck r = er at *
  go_enter Tryz.func4, Tryz.ntmps4
  go_wp2_with fail
  go_loopw [13] (fun i wr => In Q wr ∧ (i = .int .i64 0 ∨ (i = .int .i64 1 ∧ en = 0) ∨ (i = .int .i64 2 ∧ en = 0 ∧ er = 0))) (fun i _ => 2 - (intOf i).toNat)
  case atStart => exact ⟨hQ1, .inl rfl⟩
  case round =>
    obtain ⟨hQw, rfl | ⟨rfl, rfl⟩ | ⟨rfl, rfl, rfl⟩⟩ := hrel
    all_goals clear hQ1  
    · skip
      have x0 := b0 _ hQw
      have x1 := b1 _ hQw
      have x2 := b2 _ hQw
      have x3 := b3 _ hQw
      have x4 := b4 _ hQw
      have x5 := b5 _ hQw
      have x6 := b6 _ hQw
      clear y0 y1 y2 y3 y4 y5 y6 z0 z1 z2 z3 z4 z5 z6 b0 b1 b2 b3 b4 b5 b6 b7 b8 b9 b10 b11 b12 b13 HW
      have hQ2 := hQ.alloc _ (.cells #[.slice sa n.store.length sc, .slice ra n.refs.length rc, .int .i64 n.gen, .int .i64 n.phase, .slice oa n.pend.objects.length oc, .slice ua n.pend.updates.length uc, .bool n.pend.force] 28) hQw
      by_cases hz : en = 0
      · subst hz
        go_wp2_with fail
        refine (HC.out _ hQ2).mono ?_
        rintro e w1 ⟨rfl, hb1⟩
        have hQ3 := hQn _ _ hQ2 hb1
        go_wp2_with fail
        go_roundw
        case rel => exact ⟨hQ3, .inr (.inl ⟨rfl, by simp⟩)⟩
        case measure => simp [intOf]
      · have HE2 := Lib.hid (show fromE n r = en by rw [HE.out, if_pos hz])
        have HR2 := Lib.hid (show fromR n r = rep0 by rw [HR.out, HE2.out, if_neg hz])
        have hq : (en != 0) = true := by simpa using hz
        clear hz
        go_wp2_with fail
        refine (HC.out _ hQ2).mono ?_
        rintro e w1 ⟨rfl, hb1⟩
        have hQ3 := hQn _ _ hQ2 hb1
        clear x0 x1 x2 x3 x4 x5 x6
        have hblk := HZ.out _ hQ3
        simp only [zero7] at hblk
        have g0 := block_cell (j := 0) hblk rfl
        have g1 := block_cell (j := 1) hblk rfl
        have g2 := block_cell (j := 2) hblk rfl
        have g3 := block_cell (j := 3) hblk rfl
        have g4 := block_cell (j := 4) hblk rfl
        have g5 := block_cell (j := 5) hblk rfl
        have g6 := block_cell (j := 6) hblk rfl
        have f0 := block_free (j := 0) hblk
        have f1 := block_free (j := 1) hblk
        have f2 := block_free (j := 2) hblk
        have f3 := block_free (j := 3) hblk
        have f4 := block_free (j := 4) hblk
        have f5 := block_free (j := 5) hblk
        have f6 := block_free (j := 6) hblk
        go_wp2_with fail
        change bodyPost _ _ _ _ _ (set7 (w.heap.size + 2) (.slice none 0 0) (.slice none 0 0) (.int .i64 0) (.int .i64 0) (.slice none 0 0) (.slice none 0 0) (.bool false) w1)
        have hb7 := set7_is (v0 := .slice none 0 0) (v1 := .slice none 0 0) (v2 := .int .i64 0) (v3 := .int .i64 0) (v4 := .slice none 0 0) (v5 := .slice none 0 0) (v6 := .bool false) hblk
        have hu7 := set7_upd (w.heap.size + 2) (.slice none 0 0) (.slice none 0 0) (.int .i64 0) (.int .i64 0) (.slice none 0 0) (.slice none 0 0) (.bool false) w1
        generalize set7 (w.heap.size + 2) (.slice none 0 0) (.slice none 0 0) (.int .i64 0) (.int .i64 0) (.slice none 0 0) (.slice none 0 0) (.bool false) w1 = w7 at *
        have k0 := block_cell (j := 0) hb7 rfl
        have k1 := block_cell (j := 1) hb7 rfl
        have k2 := block_cell (j := 2) hb7 rfl
        have k3 := block_cell (j := 3) hb7 rfl
        have k4 := block_cell (j := 4) hb7 rfl
        have k5 := block_cell (j := 5) hb7 rfl
        have k6 := block_cell (j := 6) hb7 rfl
        clear g0 g1 g2 g3 g4 g5 g6 f0 f1 f2 f3 f4 f5 f6 hblk hb7
        have hsz := (hQb _ hQ3).size
        have hB7 : Below w.heap.size w w7 := (hQb _ hQ3).trans (hu7.below (B := w.heap.size) hsz (fun b hb => by omega))
        refine bodyPost_ret (v := .tuple #[.agg #[.slice none 0 0, .slice none 0 0, .int .i64 0, .int .i64 0, .slice none 0 0, .slice none 0 0, .bool false], .int .i64 en]) (by simp [results, Tryz.results4, go_sem]; simp [k0, k1, k2, k3, k4, k5, k6] <;> rfl) rfl ?_
        rw [HR2.out, HE2.out]
        exact ⟨_, _, _, _, rfl, rep0_is _ _, hB7⟩
    · skip
      have x0 := b7 _ hQw
      have x1 := b8 _ hQw
      have x2 := b9 _ hQw
      have x3 := b10 _ hQw
      have x4 := b11 _ hQw
      have x5 := b12 _ hQw
      have x6 := b13 _ hQw
      clear y0 y1 y2 y3 y4 y5 y6 z0 z1 z2 z3 z4 z5 z6 b0 b1 b2 b3 b4 b5 b6 b7 b8 b9 b10 b11 b12 b13 HW
      have hQ2 := hQ.alloc _ (.cells #[.slice sa2 r.store.length sc2, .slice ra2 r.refs.length rc2, .int .i64 r.gen, .int .i64 r.phase, .slice oa2 r.pend.objects.length oc2, .slice ua2 r.pend.updates.length uc2, .bool r.pend.force] 28) hQw
      by_cases hz : er = 0
      · subst hz
        go_wp2_with fail
        refine (HD.out _ hQ2).mono ?_
        rintro e w1 ⟨rfl, hb1⟩
        have hQ3 := hQn _ _ hQ2 hb1
        go_wp2_with fail
        go_roundw
        case rel => exact ⟨hQ3, .inr (.inr ⟨rfl, by simp⟩)⟩
        case measure => simp [intOf]
      · have HE2 := Lib.hid (show fromE n r = er by rw [HE.out, if_neg (by simp), if_pos hz])
        have HR2 := Lib.hid (show fromR n r = rep0 by rw [HR.out, HE2.out, if_neg hz])
        have hq : (er != 0) = true := by simpa using hz
        clear hz
        go_wp2_with fail
        refine (HD.out _ hQ2).mono ?_
        rintro e w1 ⟨rfl, hb1⟩
        have hQ3 := hQn _ _ hQ2 hb1
        clear x0 x1 x2 x3 x4 x5 x6
        have hblk := HZ.out _ hQ3
        simp only [zero7] at hblk
        have g0 := block_cell (j := 0) hblk rfl
        have g1 := block_cell (j := 1) hblk rfl
        have g2 := block_cell (j := 2) hblk rfl
        have g3 := block_cell (j := 3) hblk rfl
        have g4 := block_cell (j := 4) hblk rfl
        have g5 := block_cell (j := 5) hblk rfl
        have g6 := block_cell (j := 6) hblk rfl
        have f0 := block_free (j := 0) hblk
        have f1 := block_free (j := 1) hblk
        have f2 := block_free (j := 2) hblk
        have f3 := block_free (j := 3) hblk
        have f4 := block_free (j := 4) hblk
        have f5 := block_free (j := 5) hblk
        have f6 := block_free (j := 6) hblk
        go_wp2_with fail
        change bodyPost _ _ _ _ _ (set7 (w.heap.size + 2) (.slice none 0 0) (.slice none 0 0) (.int .i64 0) (.int .i64 0) (.slice none 0 0) (.slice none 0 0) (.bool false) w1)
        have hb7 := set7_is (v0 := .slice none 0 0) (v1 := .slice none 0 0) (v2 := .int .i64 0) (v3 := .int .i64 0) (v4 := .slice none 0 0) (v5 := .slice none 0 0) (v6 := .bool false) hblk
        have hu7 := set7_upd (w.heap.size + 2) (.slice none 0 0) (.slice none 0 0) (.int .i64 0) (.int .i64 0) (.slice none 0 0) (.slice none 0 0) (.bool false) w1
        generalize set7 (w.heap.size + 2) (.slice none 0 0) (.slice none 0 0) (.int .i64 0) (.int .i64 0) (.slice none 0 0) (.slice none 0 0) (.bool false) w1 = w7 at *
        have k0 := block_cell (j := 0) hb7 rfl
        have k1 := block_cell (j := 1) hb7 rfl
        have k2 := block_cell (j := 2) hb7 rfl
        have k3 := block_cell (j := 3) hb7 rfl
        have k4 := block_cell (j := 4) hb7 rfl
        have k5 := block_cell (j := 5) hb7 rfl
        have k6 := block_cell (j := 6) hb7 rfl
        clear g0 g1 g2 g3 g4 g5 g6 f0 f1 f2 f3 f4 f5 f6 hblk hb7
        have hsz := (hQb _ hQ3).size
        have hB7 : Below w.heap.size w w7 := (hQb _ hQ3).trans (hu7.below (B := w.heap.size) hsz (fun b hb => by omega))
        refine bodyPost_ret (v := .tuple #[.agg #[.slice none 0 0, .slice none 0 0, .int .i64 0, .int .i64 0, .slice none 0 0, .slice none 0 0, .bool false], .int .i64 er]) (by simp [results, Tryz.results4, go_sem]; simp [k0, k1, k2, k3, k4, k5, k6] <;> rfl) rfl ?_
        rw [HR2.out, HE2.out]
        exact ⟨_, _, _, _, rfl, rep0_is _ _, hB7⟩
    · skip
      rw [if_neg (by simp), if_neg (by simp)] at HE
      have x0 := y0 _ hQw
      have u0 := z0 _ hQw
      have x1 := y1 _ hQw
      have u1 := z1 _ hQw
      have x2 := y2 _ hQw
      have u2 := z2 _ hQw
      have x3 := y3 _ hQw
      have u3 := z3 _ hQw
      have x4 := y4 _ hQw
      have u4 := z4 _ hQw
      have x5 := y5 _ hQw
      have u5 := z5 _ hQw
      have x6 := y6 _ hQw
      have u6 := z6 _ hQw
      clear y0 y1 y2 y3 y4 y5 y6 z0 z1 z2 z3 z4 z5 z6 b0 b1 b2 b3 b4 b5 b6 b7 b8 b9 b10 b11 b12 b13
      go_wp2_with fail
      refine (HW.out _ hQw (by simp) (by simp)).mono ?_
      rintro e w1 ⟨sv3, rv3, ov3, uv3, rfl, hv, hb1⟩
      have hQ2 := hQn _ _ hQw hb1
      obtain ⟨sa3, sc3, rfl⟩ := hv.store.vshape
      obtain ⟨⟨ra3, rc3⟩, rfl⟩ := hv.refs.shape
      obtain ⟨oa3, oc3, rfl⟩ := hv.objs.vshape
      obtain ⟨⟨ua3, uc3⟩, rfl⟩ := hv.upds.shape
      have Hv := Lib.hid (hv.weaken (S' := fun b => w.heap.size + 2 < b) (fun b hb => by have := lt_of_block (HZ.out _ hQw); omega))
      clear hv
      have HR2 := Lib.hid (show fromR n r = repairR n r by rw [HR.out, HE.out]; by_cases h : repairE n r = 0; rw [if_pos h]; rw [if_neg h, HR0.out h])
      generalize repairR n r = rr at *
      generalize repairE n r = re at *
      simp only [repV]
      have hblk := HZ.out _ hQ2
      simp only [zero7] at hblk
      have g0 := block_cell (j := 0) hblk rfl
      have g1 := block_cell (j := 1) hblk rfl
      have g2 := block_cell (j := 2) hblk rfl
      have g3 := block_cell (j := 3) hblk rfl
      have g4 := block_cell (j := 4) hblk rfl
      have g5 := block_cell (j := 5) hblk rfl
      have g6 := block_cell (j := 6) hblk rfl
      have f0 := block_free (j := 0) hblk
      have f1 := block_free (j := 1) hblk
      have f2 := block_free (j := 2) hblk
      have f3 := block_free (j := 3) hblk
      have f4 := block_free (j := 4) hblk
      have f5 := block_free (j := 5) hblk
      have f6 := block_free (j := 6) hblk
      clear x0 x1 x2 x3 x4 x5 x6 u0 u1 u2 u3 u4 u5 u6
      go_wp2_with fail
      change bodyPost _ _ _ _ _ (set7 (w.heap.size + 2) (.slice sa3 rr.store.length sc3) (.slice ra3 rr.refs.length rc3) (.int .i64 rr.gen) (.int .i64 rr.phase) (.slice oa3 rr.pend.objects.length oc3) (.slice ua3 rr.pend.updates.length uc3) (.bool rr.pend.force) w1)
      have hb7 := set7_is (v0 := .slice sa3 rr.store.length sc3) (v1 := .slice ra3 rr.refs.length rc3) (v2 := .int .i64 rr.gen) (v3 := .int .i64 rr.phase) (v4 := .slice oa3 rr.pend.objects.length oc3) (v5 := .slice ua3 rr.pend.updates.length uc3) (v6 := .bool rr.pend.force) hblk
      have hu7 := set7_upd (w.heap.size + 2) (.slice sa3 rr.store.length sc3) (.slice ra3 rr.refs.length rc3) (.int .i64 rr.gen) (.int .i64 rr.phase) (.slice oa3 rr.pend.objects.length oc3) (.slice ua3 rr.pend.updates.length uc3) (.bool rr.pend.force) w1
      generalize set7 (w.heap.size + 2) (.slice sa3 rr.store.length sc3) (.slice ra3 rr.refs.length rc3) (.int .i64 rr.gen) (.int .i64 rr.phase) (.slice oa3 rr.pend.objects.length oc3) (.slice ua3 rr.pend.updates.length uc3) (.bool rr.pend.force) w1 = w7 at *
      have k0 := block_cell (j := 0) hb7 rfl
      have k1 := block_cell (j := 1) hb7 rfl
      have k2 := block_cell (j := 2) hb7 rfl
      have k3 := block_cell (j := 3) hb7 rfl
      have k4 := block_cell (j := 4) hb7 rfl
      have k5 := block_cell (j := 5) hb7 rfl
      have k6 := block_cell (j := 6) hb7 rfl
      clear g0 g1 g2 g3 g4 g5 g6 f0 f1 f2 f3 f4 f5 f6 hblk hb7
      have hsz := (hQb _ hQ2).size
      have hB7 : Below w.heap.size w w7 := (hQb _ hQ2).trans (hu7.below (B := w.heap.size) hsz (fun b hb => by omega))
      have Hv7 := (Hv.out.upd hu7 (fun b hb e => by omega)).weaken (S' := fun b => w.heap.size ≤ b) (fun b hb => by omega)
      refine bodyPost_ret (v := .tuple #[.agg #[.slice sa3 rr.store.length sc3, .slice ra3 rr.refs.length rc3, .int .i64 rr.gen, .int .i64 rr.phase, .slice oa3 rr.pend.objects.length oc3, .slice ua3 rr.pend.updates.length uc3, .bool rr.pend.force], .int .i64 re]) (by simp [results, Tryz.results4, go_sem]; simp [k0, k1, k2, k3, k4, k5, k6] <;> rfl) rfl ?_
      rw [HR2.out, HE.out]
      exact ⟨_, _, _, _, rfl, Hv7, hB7⟩

/-- is a replica what it must be beside an errno? -/
def repIsB (r : Rep) (e c : Int) (want : Rep) : Bool := (e == c) && sameRep r (if c = 0 then want else rep0)
theorem repIsB_same (r : Rep) (c : Int) (h : c ≠ 0 → r = rep0) : repIsB r c c r = true := by
  unfold repIsB
  by_cases hc : c = 0
  · rw [if_pos hc, (sameRep_iff _ _).2 rfl]; simp
  · rw [if_neg hc, h hc, (sameRep_iff _ _).2 rfl]; simp

end Go.Proofs.YtjkbaallfkjmhaaGreat
