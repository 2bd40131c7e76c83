
/- Walks: the law RepairTells. -/
import Derived.Test.YtjkbaallfkjmhaaRepE
import Derived.Test.YtjkbaallfkjmhaaRepP
import Derived.Test.YtjkbaallfkjmhaaAllA
import Derived.Deep.DeepCutAuto
namespace Go.Proofs.Ytjkbaallfkjmhaa
open Go.RowKit
set_option linter.unusedVariables false
set_option linter.unusedSimpArgs false

abbrev cBR (D : Nat) (r : Rep) : Claim := ⟨fun x => BoxR D x r, fun _ _ h hb => h.below hb⟩
abbrev cBC (D : Nat) (l : List Rep) : Claim := ⟨fun x => BoxC D x l, fun _ _ h hb => h.below hb⟩
/-- a replica's variable; where what it holds lies is told -/
def BoxP (P : Nat → Prop) (D : Nat) (w : World) (r : Rep) : Prop :=
  ∃ sa sc ra rc oa oc ua uc, w.heap[D]? = some (.cells #[.slice sa r.store.length sc, .slice ra r.refs.length rc, .int .i64 r.gen, .int .i64 r.phase, .slice oa r.pend.objects.length oc, .slice ua r.pend.updates.length uc, .bool r.pend.force] 28 (0, 0)) ∧
    RepIs P w r (.slice sa r.store.length sc) (.slice ra r.refs.length rc) (.slice oa r.pend.objects.length oc) (.slice ua r.pend.updates.length uc)
theorem BoxP.below {P : Nat → Prop} {D : Nat} {w w' : World} {r : Rep} (h : BoxP P D w r) (hb : Below w.heap.size w w') : BoxP P D w' r := by
  obtain ⟨sa, sc, ra, rc, oa, oc, ua, uc, h1, h2⟩ := h
  exact ⟨sa, sc, ra, rc, oa, oc, ua, uc, blk_below h1 hb, h2.below hb⟩
theorem BoxP.upd {P T : Nat → Prop} {D : Nat} {w w' : World} {r : Rep} (h : BoxP P D w r) (hu : Upd T w w') (hD : ¬ T D) (hP : ∀ b, P b → ¬ T b) : BoxP P D w' r := by
  obtain ⟨sa, sc, ra, rc, oa, oc, ua, uc, h1, h2⟩ := h
  exact ⟨sa, sc, ra, rc, oa, oc, ua, uc, hu.blk h1 hD, RepIs.upd h2 hu hP⟩
theorem BoxP.any {P : Nat → Prop} {D : Nat} {w : World} {r : Rep} (h : BoxP P D w r) : BoxR D w r := by
  obtain ⟨sa, sc, ra, rc, oa, oc, ua, uc, h1, h2⟩ := h
  exact ⟨sa, sc, ra, rc, oa, oc, ua, uc, h1, h2.weaken fun _ _ => trivial⟩
theorem BoxP.zero (P : Nat → Prop) {D : Nat} {w : World} (h : w.heap[D]? = some (.cells #[.slice none 0 0, .slice none 0 0, .int .i64 0, .int .i64 0, .slice none 0 0, .slice none 0 0, .bool false] 28 (0, 0))) : BoxP P D w rep0 :=
  ⟨none, 0, none, 0, none, 0, none, 0, h, rep0_is _ _⟩
theorem allL_length (l : List Rep) : (allL l).length ≤ 3 := by
  unfold allL
  split
  · rename_i h
    rw [mendTo_length]
    unfold allE at h
    split at h
    · rename_i h2; exact absurd h h2
    · rename_i h2; have := (cluE_zero (by simpa using h2)).1; omega
  · simp
theorem fromE_c (n r : Rep) : fromE n r = if (if repCheck n ≠ 0 then repCheck n else repCheck r) = 0 then repairE n r else if repCheck n ≠ 0 then repCheck n else repCheck r := by
  unfold fromE
  by_cases h1 : repCheck n = 0
  · by_cases h2 : repCheck r = 0
    · simp [h1, h2]
    · simp [h1, h2]
  · simp [h1]
theorem fromR_c (n r : Rep) : fromR n r = if (if repCheck n ≠ 0 then repCheck n else repCheck r) = 0 then repairR n r else rep0 := by
  unfold fromR
  rw [fromE_c]
  by_cases h : (if repCheck n ≠ 0 then repCheck n else repCheck r) = 0
  · simp only [if_pos h]
    by_cases h2 : repairE n r = 0
    · rw [if_pos h2]
    · rw [if_neg h2]; unfold repairR; rw [if_neg h2]
  · simp only [if_neg h]
theorem allE_c (l : List Rep) (h : cluE l ≠ 0) : allE l = cluE l ∧ allL l = [] ∧ allN l = 0 := by
  have e : allE l = cluE l := by unfold allE; rw [if_pos h]
  exact ⟨e, by unfold allL; rw [e, if_neg h], by unfold allN; rw [e, if_neg h]⟩

set_option maxRecDepth 100000 in
set_option maxHeartbeats 8000000 in
theorem repairTells_any (n r : Rep) (l : List Rep) (sv rv ov uv sv2 rv2 ov2 uv2 cv : Value) (S S' S'' : Nat → Prop) (w : World) (h : RepIs S w n sv rv ov uv) (h2 : RepIs S' w r sv2 rv2 ov2 uv2) (h3 : RepsV S'' w cv l) :
    Calls Try.prog 3 #[repV n sv rv ov uv, repV r sv2 rv2 ov2 uv2, .agg #[cv]] w fun e w' => e = .returned (.bool true) ∧ Below w.heap.size w w' := by
  have HIR := Lib.hid (repIsB_same (fromR n r) (fromE n r) fromR_not)
  have HIC := Lib.hid (cluIsB_same (allL l) (allE l) (fun h => by unfold allL; rw [if_neg h]))
  have HFE := Lib.hid (fromE_c n r)
  have HFR := Lib.hid (fromR_c n r)
  have H := Lib.hid h
  have G := Lib.hid h2
  have J := Lib.hid h3
  obtain ⟨san, scn, rfl⟩ := h.store.vshape
  obtain ⟨⟨ran, rcn⟩, rfl⟩ := h.refs.shape
  obtain ⟨oan, ocn, rfl⟩ := h.objs.vshape
  obtain ⟨⟨uan, ucn⟩, rfl⟩ := h.upds.shape
  obtain ⟨sar, scr, rfl⟩ := h2.store.vshape
  obtain ⟨⟨rar, rcr⟩, rfl⟩ := h2.refs.shape
  obtain ⟨oar, ocr, rfl⟩ := h2.objs.vshape
  obtain ⟨⟨uar, ucr⟩, rfl⟩ := h2.upds.shape
  obtain ⟨ca, cc, rfl⟩ := h3.vshape
  clear h h2 h3
  simp only [repV]
  obtain ⟨R, hR, hR1, HB0⟩ := cls_allocs w [.cells #[.slice san n.store.length scn, .slice ran n.refs.length rcn, .int .i64 n.gen, .int .i64 n.phase, .slice oan n.pend.objects.length ocn, .slice uan n.pend.updates.length ucn, .bool n.pend.force] 28, .cells #[.slice sar r.store.length scr, .slice rar r.refs.length rcr, .int .i64 r.gen, .int .i64 r.phase, .slice oar r.pend.objects.length ocr, .slice uar r.pend.updates.length ucr, .bool r.pend.force] 28, .cells #[.slice ca l.length cc] 31]
  simp only [List.foldl] at hR1
  have hRb := hR.below
  have HK := Lib.hid (fun x (hx : In R x) => show Keep [cB w, cBR w.heap.size n, cBR (w.heap.size + 1) r, cBC (w.heap.size + 2) l] x from ⟨hRb _ hx, ⟨_, _, _, _, _, _, _, _, HB0 x hx 0 _ rfl, (H.out.below (hRb _ hx)).weaken fun _ _ => trivial⟩, ⟨_, _, _, _, _, _, _, _, HB0 x hx 1 _ rfl, (G.out.below (hRb _ hx)).weaken fun _ _ => trivial⟩, ⟨_, _, HB0 x hx 2 _ rfl, (J.out.below (hRb _ hx)).weaken fun _ _ => trivial⟩, trivial⟩)
  have y0 := block_cell (j := 0) (HB0 _ hR1 0 _ rfl) rfl
  have y1 := block_cell (j := 1) (HB0 _ hR1 0 _ rfl) rfl
  have y2 := block_cell (j := 2) (HB0 _ hR1 0 _ rfl) rfl
  have y3 := block_cell (j := 3) (HB0 _ hR1 0 _ rfl) rfl
  have y4 := block_cell (j := 4) (HB0 _ hR1 0 _ rfl) rfl
  have y5 := block_cell (j := 5) (HB0 _ hR1 0 _ rfl) rfl
  have y6 := block_cell (j := 6) (HB0 _ hR1 0 _ rfl) rfl
  have z0 := block_cell (j := 0) (HB0 _ hR1 1 _ rfl) rfl
  have z1 := block_cell (j := 1) (HB0 _ hR1 1 _ rfl) rfl
  have z2 := block_cell (j := 2) (HB0 _ hR1 1 _ rfl) rfl
  have z3 := block_cell (j := 3) (HB0 _ hR1 1 _ rfl) rfl
  have z4 := block_cell (j := 4) (HB0 _ hR1 1 _ rfl) rfl
  have z5 := block_cell (j := 5) (HB0 _ hR1 1 _ rfl) rfl
  have z6 := block_cell (j := 6) (HB0 _ hR1 1 _ rfl) rfl
  simp only [Nat.add_zero] at y0 y1 y2 y3 y4 y5 y6
  have HF := Lib.hid (from_any n r _ _ _ _ _ _ _ _ _ _ _ (H.out.below (hRb _ hR1)) (G.out.below (hRb _ hR1)))
  simp only [repV] at HF
  generalize hAA : fromR n r = A at *
  generalize hEE : fromE n r = E at *
  clear HB0 hAA hEE
  go_enter Try.func3, Try.ntmps3
  go_wp2_with fail
  refine HF.out.mono ?_
  rintro e x1 ⟨svt, rvt, ovt, uvt, rfl, hv, hb1⟩
  obtain ⟨saa, sca, rfl⟩ := hv.store.vshape
  obtain ⟨⟨raa, rca⟩, rfl⟩ := hv.refs.shape
  obtain ⟨oaa, oca, rfl⟩ := hv.objs.vshape
  obtain ⟨⟨uaa, uca⟩, rfl⟩ := hv.upds.shape
  have HK1 := Lib.hid ((HK.out _ hR1).below hb1)
  have HK2 := Lib.hid (Keep.push (c := cBR x1.heap.size A) (HK1.out.alloc (.cells #[.slice saa A.store.length sca, .slice raa A.refs.length rca, .int .i64 A.gen, .int .i64 A.phase, .slice oaa A.pend.objects.length oca, .slice uaa A.pend.updates.length uca, .bool A.pend.force] 28)) ⟨_, _, _, _, _, _, _, _, heap_alloc_new x1 _, (hv.below ((Below.refl _ _).alloc (Nat.le_refl _) _)).weaken fun _ _ => trivial⟩)
  clear HF HK1 hb1 hv HK y0 y1 y2 y3 y4 y5 y6 z0 z1 z2 z3 z4 z5 z6 hR1 hRb hR H G J
  obtain ⟨cb, cd, hbk, hr3⟩ := HK2.out.2.2.2.2.1
  have a0 := block_cell (j := 0) hbk rfl
  have HAl := Lib.hid (repairAll_any l _ _ _ hr3)
  clear hbk hr3
  simp only [repV]
  go_wp2_with fail
  refine HAl.out.mono ?_
  rintro e x2 ⟨v2, rfl, ⟨F, hO, hF⟩, hb2⟩
  obtain ⟨a2, c2, rfl⟩ := hO.shape
  have HK3 := Lib.hid (Keep.push (c := cBC x2.heap.size (allL l)) ((HK2.out.below hb2).alloc (.cells #[.slice a2 (allL l).length c2] 31)) ⟨a2, c2, heap_alloc_new x2 _, (hO.any (by have := allL_length l; omega)).below ((Below.refl _ _).alloc (Nat.le_refl _) _)⟩)
  clear hO hF hb2 HAl HK2 a0
  generalize hal : allL l = AL at *
  generalize hae : allE l = AE at *
  generalize han : allN l = AN at *
  have Hal := Lib.hid hal
  have Hae := Lib.hid hae
  have Han := Lib.hid han
  clear hal hae han
  go_wp2_with fail
  generalize x1.heap.size = D7 at *
  generalize x2.heap.size = D9 at *
  generalize x2.alloc _ = x3 at *
  obtain ⟨T, hT, hT1, _⟩ := cls_plain x3
  have hTb := hT.below
  have hTg := cls_grown hT
  obtain ⟨sa1, sc1, ra1, rc1, oa1, oc1, ua1, uc1, hbk1, hr1⟩ := HK3.out.2.2.2.1
  obtain ⟨ca2, cc2, hbk2, hr2⟩ := HK3.out.2.2.2.2.2.1
  have u0 := fun x (hx : In T x) => block_cell (j := 0) (blk_below hbk1 (hTb _ hx)) rfl
  have u1 := fun x (hx : In T x) => block_cell (j := 1) (blk_below hbk1 (hTb _ hx)) rfl
  have u2 := fun x (hx : In T x) => block_cell (j := 2) (blk_below hbk1 (hTb _ hx)) rfl
  have u3 := fun x (hx : In T x) => block_cell (j := 3) (blk_below hbk1 (hTb _ hx)) rfl
  have u4 := fun x (hx : In T x) => block_cell (j := 4) (blk_below hbk1 (hTb _ hx)) rfl
  have u5 := fun x (hx : In T x) => block_cell (j := 5) (blk_below hbk1 (hTb _ hx)) rfl
  have u6 := fun x (hx : In T x) => block_cell (j := 6) (blk_below hbk1 (hTb _ hx)) rfl
  have t0 := fun x (hx : In T x) => block_cell (j := 0) (blk_below hbk2 (hTb _ hx)) rfl
  have HC1 := Lib.hid (fun x (hx : In T x) => checkReplica_any n _ _ _ _ _ x (hr1.below (hTb _ hx)))
  have HC2 := Lib.hid (fun x (hx : In T x) => checkCluster_any l _ _ x (hr2.below (hTb _ hx)))
  simp only [repV] at HC1
  clear hr1 hr2 hbk1 hbk2
  refine wp_region_quiet_below (by kernel_rfl) (by kernel_rfl) ?_
  repeat (quiet_step (first | (with_reducible exact Calls.regrown_of (HC1.out _ (hTg _ _ _ hT1))) | (with_reducible exact Calls.regrown_of (HC2.out _ (hTg _ _ _ hT1)))))
  refine wpQuiet_nil ?_
  intro _ hw'
  obtain ⟨⟨dq, osq⟩, hw''⟩ := hw'
  subst hw''
  have hT2 := hTg _ dq osq hT1
  generalize Go.Sort.grow (redrawn _ dq) osq = x5 at *
  have HK5 := Lib.hid (HK3.out.below (hTb _ hT2))
  clear u0 u1 u2 u3 u4 u5 u6 t0 HC1 HC2 hT2 hTg hTb hT1 hT HK3
  obtain ⟨c, hc⟩ : ∃ c : Int, c = if repCheck n ≠ 0 then repCheck n else repCheck r := ⟨_, rfl⟩
  rw [← hc] at HFE HFR
  have Hc := Lib.hid hc
  clear hc
  go_upto_if 34 with fail
  go_cut [12] (fun s12 wx => s12 = .int .i64 c ∧ ∃ y, y = wx ∧ Hid (Keep [cBC D9 AL, cBR D7 A, cB w, cBR w.heap.size n, cBR (w.heap.size + 1) r, cBC (w.heap.size + 2) l] y))
  case first =>
    by_cases ea : repCheck n = 0
    · have hq : (repCheck n == 0) = true := by simpa using ea
      obtain ⟨sa1, sc1, ra1, rc1, oa1, oc1, ua1, uc1, hbk1, hr1⟩ := HK5.out.2.2.2.2.1
      have y0 := block_cell (j := 0) hbk1 rfl
      have y1 := block_cell (j := 1) hbk1 rfl
      have y2 := block_cell (j := 2) hbk1 rfl
      have y3 := block_cell (j := 3) hbk1 rfl
      have y4 := block_cell (j := 4) hbk1 rfl
      have y5 := block_cell (j := 5) hbk1 rfl
      have y6 := block_cell (j := 6) hbk1 rfl
      have HC1 := Lib.hid (checkReplica_any r _ _ _ _ _ x5 hr1)
      simp only [repV] at HC1
      clear hr1 hbk1
      go_wp2_with fail
      refine HC1.out.mono ?_
      rintro e x6 ⟨rfl, hb6⟩
      have HK6 := Lib.hid (HK5.out.below hb6)
      clear hb6 HC1 y0 y1 y2 y3 y4 y5 y6
      go_wp2_with fail
      go_meet
      exact ⟨by rw [Hc.out, if_neg (by simpa using ea)], _, rfl, HK6⟩
    · have hq : (repCheck n == 0) = false := by simpa using ea
      go_wp2_with fail
      go_meet
      exact ⟨by rw [Hc.out, if_pos ea], _, rfl, HK5⟩
  case rest =>
    obtain ⟨rfl, y6, rfl, HK6⟩ := hcut
    clear HK5
    go_upto_if 38 with fail
    obtain ⟨y7, hy7⟩ : ∃ y7, y7 = (y6.alloc (.cells #[.slice none 0 0, .slice none 0 0, .int .i64 0, .int .i64 0, .slice none 0 0, .slice none 0 0, .bool false] 28)).alloc (.cells #[.slice none 0 0] 31) := ⟨_, rfl⟩
    have hb7 : Below y6.heap.size y6 y7 := by rw [hy7]; exact ((Below.refl _ _).alloc (Nat.le_refl _) _).alloc (by simp) _
    have hs7 : y7.heap.size = y6.heap.size + 2 := by rw [hy7]; simp
    have hz14 : y7.heap[y6.heap.size]? = some (.cells #[.slice none 0 0, .slice none 0 0, .int .i64 0, .int .i64 0, .slice none 0 0, .slice none 0 0, .bool false] 28 (0, 0)) := by rw [hy7, Below.heap_alloc _ _ _ (by simp)]; exact heap_alloc_new y6 _
    have hz15 : y7.heap[y6.heap.size + 1]? = some (.cells #[.slice none 0 0] 31 (0, 0)) := by rw [hy7]; exact heap_new _ _ _ (by simp)
    rw [← hy7]
    clear hy7
    have HB7 := Lib.hid hb7
    have HS7 := Lib.hid hs7
    have HZ14 := Lib.hid hz14
    have HZ15 := Lib.hid hz15
    clear hb7 hs7 hz14 hz15
    go_cut [12] (fun s12 wx => s12 = .int .i64 E ∧ ∃ y, y = wx ∧ Hid (Below y6.heap.size y6 y ∧ BoxP (fun b => b ≠ y6.heap.size + 1) y6.heap.size y A ∧ y.heap[y6.heap.size + 1]? = some (.cells #[.slice none 0 0] 31 (0, 0))))
    case first =>
      by_cases e0 : c = 0
      · have he : repCheck n = 0 ∧ repCheck r = 0 := by
          have := Hc.out
          rw [e0] at this
          by_cases ea : repCheck n = 0
          · rw [if_neg (by simpa using ea)] at this; exact ⟨ea, this.symm⟩
          · rw [if_pos ea] at this; exact absurd this.symm ea
        rw [if_pos e0] at HFE HFR
        obtain ⟨sa1, sc1, ra1, rc1, oa1, oc1, ua1, uc1, hbk1, hr1⟩ := (HK6.out.below HB7.out).2.2.2.1
        obtain ⟨sa2, sc2, ra2, rc2, oa2, oc2, ua2, uc2, hbk2, hr2⟩ := (HK6.out.below HB7.out).2.2.2.2.1
        have cy0 := block_cell (j := 0) hbk1 rfl
        have cy1 := block_cell (j := 1) hbk1 rfl
        have cy2 := block_cell (j := 2) hbk1 rfl
        have cy3 := block_cell (j := 3) hbk1 rfl
        have cy4 := block_cell (j := 4) hbk1 rfl
        have cy5 := block_cell (j := 5) hbk1 rfl
        have cy6 := block_cell (j := 6) hbk1 rfl
        have cz0 := block_cell (j := 0) hbk2 rfl
        have cz1 := block_cell (j := 1) hbk2 rfl
        have cz2 := block_cell (j := 2) hbk2 rfl
        have cz3 := block_cell (j := 3) hbk2 rfl
        have cz4 := block_cell (j := 4) hbk2 rfl
        have cz5 := block_cell (j := 5) hbk2 rfl
        have cz6 := block_cell (j := 6) hbk2 rfl
        obtain ⟨sa3, sc3, ra3, rc3, oa3, oc3, ua3, uc3, hbk3, hr3⟩ := HK6.out.2.2.2.1
        obtain ⟨sa4, sc4, ra4, rc4, oa4, oc4, ua4, uc4, hbk4, hr4⟩ := HK6.out.2.2.2.2.1
        have h13 := hbk1.symm.trans (blk_below hbk3 HB7.out)
        have h24 := hbk2.symm.trans (blk_below hbk4 HB7.out)
        cases h13
        cases h24
        have hRp := repairA_any n r _ _ _ _ _ _ _ _ _ _ y7 (hr3.lt.below HB7.out) (hr4.lt.below HB7.out) ((checkStore_zero (repCheck_store he.1)).1) (repCheck_store he.2)
        rw [← HFE.out, ← HFR.out] at hRp
        simp only [repV] at hRp
        have HRp := Lib.hid hRp
        subst e0
        clear he hRp hr1 hr2 hr3 hr4 hbk1 hbk2 hbk3 hbk4
        go_wp2_with fail
        refine HRp.out.mono ?_
        rintro e x8 ⟨svt, rvt, ovt, uvt, rfl, hv, hb8⟩
        obtain ⟨sab, scb, rfl⟩ := hv.store.vshape
        obtain ⟨⟨rab, rcb⟩, rfl⟩ := hv.refs.shape
        obtain ⟨oab, ocb, rfl⟩ := hv.objs.vshape
        obtain ⟨⟨uab, ucb⟩, rfl⟩ := hv.upds.shape
        have hblk := blk_below HZ14.out hb8
        have g0 := block_cell (j := 0) hblk rfl
        have g1 := block_cell (j := 1) hblk rfl
        have g2 := block_cell (j := 2) hblk rfl
        have g3 := block_cell (j := 3) hblk rfl
        have g4 := block_cell (j := 4) hblk rfl
        have g5 := block_cell (j := 5) hblk rfl
        have g6 := block_cell (j := 6) hblk rfl
        have f0 := block_free (j := 0) hblk
        have f1 := block_free (j := 1) hblk
        have f2 := block_free (j := 2) hblk
        have f3 := block_free (j := 3) hblk
        have f4 := block_free (j := 4) hblk
        have f5 := block_free (j := 5) hblk
        have f6 := block_free (j := 6) hblk
        have Hv := Lib.hid (hv.weaken (S' := fun b => b ≠ y6.heap.size ∧ b ≠ y6.heap.size + 1) (fun b hb => by have := HS7.out; rcases hb with (h | h) | h <;> omega))
        have Hb7 := Lib.hid (set7_is (v0 := .slice sab A.store.length scb) (v1 := .slice rab A.refs.length rcb) (v2 := .int .i64 A.gen) (v3 := .int .i64 A.phase) (v4 := .slice oab A.pend.objects.length ocb) (v5 := .slice uab A.pend.updates.length ucb) (v6 := .bool A.pend.force) hblk)
        have Hu7 := Lib.hid (set7_upd y6.heap.size (.slice sab A.store.length scb) (.slice rab A.refs.length rcb) (.int .i64 A.gen) (.int .i64 A.phase) (.slice oab A.pend.objects.length ocb) (.slice uab A.pend.updates.length ucb) (.bool A.pend.force) x8)
        obtain ⟨w7, hw7⟩ : ∃ w7, w7 = set7 y6.heap.size (.slice sab A.store.length scb) (.slice rab A.refs.length rcb) (.int .i64 A.gen) (.int .i64 A.phase) (.slice oab A.pend.objects.length ocb) (.slice uab A.pend.updates.length ucb) (.bool A.pend.force) x8 := ⟨_, rfl⟩
        rw [← hw7] at Hb7 Hu7
        unfold set7 at hw7
        have Hw7 := Lib.hid hw7
        clear hw7
        have hbx : BoxP (fun b => b ≠ y6.heap.size + 1) y6.heap.size w7 A := ⟨_, _, _, _, _, _, _, _, Hb7.out, (RepIs.upd Hv.out Hu7.out (fun b hb e => hb.1 e)).weaken fun _ h => h.2⟩
        have hbl : Below y6.heap.size y6 w7 := (below_next HB7.out hb8).trans (Hu7.out.below (B := y6.heap.size) (by have := HS7.out; have := hb8.size; omega) (fun b hb => by omega))
        have HEnd := Lib.hid (And.intro hbl (And.intro hbx (Hu7.out.blk (blk_below HZ15.out hb8) (by omega))))
        clear hv hb8 hblk Hv Hb7 Hu7 HRp hbx hbl cy0 cy1 cy2 cy3 cy4 cy5 cy6 cz0 cz1 cz2 cz3 cz4 cz5 cz6
        simp only [repV]
        go_wp2_with fail
        rw [← Hw7.out]
        go_meet
        exact ⟨rfl, w7, rfl, HEnd⟩
      · have hq : (c == 0) = false := by simpa using e0
        rw [if_neg e0] at HFE HFR
        have hbx : BoxP (fun b => b ≠ y6.heap.size + 1) y6.heap.size y7 A := by rw [HFR.out]; exact BoxP.zero _ HZ14.out
        have HEnd := Lib.hid (And.intro HB7.out (And.intro hbx HZ15.out))
        clear hbx
        go_wp2_with fail
        go_meet
        exact ⟨by rw [HFE.out], y7, rfl, HEnd⟩
    case rest =>
      obtain ⟨rfl, y8, rfl, HK8⟩ := hcut
      have HZ8 := Lib.hid HK8.out.2.2
      have HSy := Lib.hid (show y6.heap.size + 1 < y8.heap.size from lt_of_block HK8.out.2.2)
      have HB8 := Lib.hid HK8.out.1
      have HP8 := Lib.hid HK8.out.2.1
      clear HK8 HZ14 HZ15 HB7 HS7 HFE HFR Hc
      obtain ⟨ca1, cc1, hbk1, hr1⟩ := HK6.out.2.2.2.2.2.1
      have HCl := Lib.hid ((hr1.lt.weaken (S' := fun b => b < y6.heap.size) fun b hb => hb.2).below HB8.out)
      have HCb := Lib.hid (blk_below hbk1 HB8.out)
      clear hr1 hbk1
      go_upto_if 46 with fail
      go_cut [13, 16] (fun s13 s16 wx => s13 = .int .i64 AE ∧ s16 = .int .i64 AN ∧ ∃ y, y = wx ∧ Hid (Keep [cBC (y6.heap.size + 1) AL, cBR y6.heap.size A, cBC D9 AL, cBR D7 A, cB w, cBR w.heap.size n, cBR (w.heap.size + 1) r, cBC (w.heap.size + 2) l] y))
      case first =>
        by_cases e0 : cluE l = 0
        · have hq : (cluE l == 0) = true := by simpa using e0
          have y0 := block_cell (j := 0) HCb.out rfl
          have hAl := allOf_any l _ _ y8 HCl.out e0
          rw [Hal.out, Hae.out, Han.out] at hAl
          have HAl := Lib.hid hAl
          clear hAl
          rw [e0]
          go_wp2_with fail
          refine HAl.out.mono ?_
          rintro e x9 ⟨v9, rfl, hv9, hb9⟩
          obtain ⟨a9, c9, rfl⟩ := hv9.vshape
          have hblk := blk_below HZ8.out hb9
          have g0 := block_cell (j := 0) hblk rfl
          have f0 := block_free (j := 0) hblk
          have hu : Upd (fun b => b = y6.heap.size + 1) x9 (x9.setCell ⟨y6.heap.size + 1, 0, none⟩ (.slice a9 AL.length c9)) := (Upd.refl (fun b => b = y6.heap.size + 1) x9).setCell (p := ⟨y6.heap.size + 1, 0, none⟩) (fun _ => rfl) _
          have hk : (x9.setCell ⟨y6.heap.size + 1, 0, none⟩ (.slice a9 AL.length c9)).heap[y6.heap.size + 1]? = some (.cells #[.slice a9 AL.length c9] 31 (0, 0)) := block_setCell (j := 0) hblk (.slice a9 AL.length c9)
          have hB := (below_next HB8.out hb9).trans (hu.below (B := y6.heap.size) (by have := HSy.out; have := hb9.size; omega) (fun b hb => by omega))
          have hP9 := ((HP8.out.below hb9).upd hu (by omega) (fun b hb e => hb e)).any
          have hC9 : BoxC (y6.heap.size + 1) _ AL := ⟨a9, c9, hk, (RepsV.upd hv9 hu (fun b hb e => by have := HSy.out; rcases hb with h | h <;> omega)).weaken fun _ _ => trivial⟩
          obtain ⟨w9, hw9⟩ : ∃ w9, w9 = x9.setCell ⟨y6.heap.size + 1, 0, none⟩ (.slice a9 AL.length c9) := ⟨_, rfl⟩
          rw [← hw9] at hP9 hC9 hB
          have Hw9 := Lib.hid hw9
          have HEnd := Lib.hid (show Keep [cBC (y6.heap.size + 1) AL, cBR y6.heap.size A, cBC D9 AL, cBR D7 A, cB w, cBR w.heap.size n, cBR (w.heap.size + 1) r, cBC (w.heap.size + 2) l] w9 from ⟨hC9, hP9, HK6.out.below hB⟩)
          clear hv9 hb9 hblk hu hk hB hP9 hC9 hw9 HAl y0 e0
          go_wp2_with fail
          rw [← Hw9.out]
          go_meet
          exact ⟨rfl, rfl, w9, rfl, HEnd⟩
        · have hq : (cluE l == 0) = false := by simpa using e0
          have hEE := allE_c l e0
          have HEnd := Lib.hid (show Keep [cBC (y6.heap.size + 1) AL, cBR y6.heap.size A, cBC D9 AL, cBR D7 A, cB w, cBR w.heap.size n, cBR (w.heap.size + 1) r, cBC (w.heap.size + 2) l] y8 from ⟨⟨none, 0, by rw [← Hal.out, hEE.2.1]; exact HZ8.out, by rw [← Hal.out, hEE.2.1]; exact RepsV.nil _ _ _ _ (by omega)⟩, HP8.out.any, HK6.out.below HB8.out⟩)
          have HV := Lib.hid (show cluE l = AE ∧ (0 : Nat) = AN from ⟨by rw [← Hae.out]; exact hEE.1.symm, by rw [← Han.out]; exact hEE.2.2.symm⟩)
          clear hEE
          generalize cluE l = ce at *
          go_wp2_with fail
          go_meet
          exact ⟨by rw [HV.out.1], by rw [← HV.out.2]; rfl, y8, rfl, HEnd⟩
      case rest =>
        obtain ⟨rfl, rfl, y9, rfl, HK10⟩ := hcut
        clear HCl HCb HZ8 HSy HB8 HP8 HK6 Hal Hae Han
        generalize y6.heap.size = D14 at *
        go_wp2_with fail
        refine (repairBegun_any _).mono ?_
        rintro e x10 ⟨rfl, hb⟩
        have HK11 := Lib.hid (HK10.out.below hb)
        clear hb HK10
        obtain ⟨sa1, sc1, ra1, rc1, oa1, oc1, ua1, uc1, hbk1, hr1⟩ := HK11.out.2.2.2.1
        obtain ⟨sa2, sc2, ra2, rc2, oa2, oc2, ua2, uc2, hbk2, hr2⟩ := HK11.out.2.1
        have y0 := block_cell (j := 0) hbk1 rfl
        have y1 := block_cell (j := 1) hbk1 rfl
        have y2 := block_cell (j := 2) hbk1 rfl
        have y3 := block_cell (j := 3) hbk1 rfl
        have y4 := block_cell (j := 4) hbk1 rfl
        have y5 := block_cell (j := 5) hbk1 rfl
        have y6 := block_cell (j := 6) hbk1 rfl
        have z0 := block_cell (j := 0) hbk2 rfl
        have z1 := block_cell (j := 1) hbk2 rfl
        have z2 := block_cell (j := 2) hbk2 rfl
        have z3 := block_cell (j := 3) hbk2 rfl
        have z4 := block_cell (j := 4) hbk2 rfl
        have z5 := block_cell (j := 5) hbk2 rfl
        have z6 := block_cell (j := 6) hbk2 rfl
        have hI := replicaIs_any A A E E _ _ _ _ _ _ _ _ _ _ x10 hr1 hr2
        rw [HIR.out] at hI
        simp only [repV] at hI
        have HI := Lib.hid hI
        clear hI hr1 hr2 hbk1 hbk2
        go_wp2_with fail
        refine HI.out.mono ?_
        rintro e x11 ⟨rfl, hb⟩
        have HK12 := Lib.hid (HK11.out.below hb)
        clear hb HK11 HI y0 y1 y2 y3 y4 y5 y6 z0 z1 z2 z3 z4 z5 z6
        obtain ⟨ca1, cc1, hbk1, hr1⟩ := HK12.out.2.2.1
        obtain ⟨ca2, cc2, hbk2, hr2⟩ := HK12.out.1
        have y0 := block_cell (j := 0) hbk1 rfl
        have z0 := block_cell (j := 0) hbk2 rfl
        have hI := clusterIs_any AL AL AE AE _ _ _ _ x11 hr1 hr2
        rw [HIC.out] at hI
        have HI := Lib.hid hI
        clear hI hr1 hr2 hbk1 hbk2
        have hq : ((AN : Int) == (AN : Int)) = true := by simp
        go_wp2_with fail
        refine HI.out.mono ?_
        rintro e x12 ⟨rfl, hb⟩
        have HB := Lib.hid (below_next HK12.out.2.2.2.2.1 hb)
        clear hb HK12 HI y0 z0
        go_wp2_with fail
        go_ret
        exact ⟨rfl, HB.out⟩
end Go.Proofs.Ytjkbaallfkjmhaa
