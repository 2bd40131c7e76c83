
/- Walks: the law ClusterSafe. -/
import Derived.Test.YtgkbalhkjolnmaaGreatDoorK29
import Derived.Deep.DeepCutAuto
namespace Go.Proofs.YtgkbalhkjolnmaaGreatDoor
open Go.RowKit
set_option linter.unusedVariables false
set_option linter.unusedSimpArgs false
structure SafeL (l : List Rep) (p : Psh) (up late : Int) (pl : List Rep) (pd : Bool) : Prop where
 llen : l.length = 3
 len : pl.length = 3
 clu : cluE pl = 0
 newest : newN pl = (best pl : Int)
 blt : best pl < 3
 same : ∀ i, i < 3 → sameRep (rep pl i) (rep l i) = !takB l p up late i
 tak : ∀ i, i < 3 → takB l p up late i = true → pd = true ∧ (rep pl i).gen = (rep l i).gen + 1 ∧ (rep pl i).phase = 0 ∧ 0 ≤ (rep l i).gen ∧ (rep l i).gen ≤ 999 ∧ ∀ j, j < p.updates.length → idOf (rep pl i).refs (mv p.updates j).name = (mv p.updates j).new
 many : pd = true → 2 ≤ takN l p up late 3
 bst : pd = true → takB l p up late (best pl) = true
theorem safeL {l : List Rep} {p : Psh} {up late : Int} (h : pushCE l p up late = 0) : SafeL l p up late (pushCL l p up late) (pushCD l p up late) := by
 obtain ⟨hc, hr, h1, h2⟩ := pushC_zero h
 rw [h1, h2]
 have hR := push_right hc hr
 have hcl := clu_right.2 hR
 refine ⟨hc.len, hR.len, hcl, by unfold newN; rw [if_pos hcl], by have := best_lt (l := pushRL l p up late) (by have := hR.len; omega); have := hR.len; omega, fun i hi => by rw [pushRL_at hr hi]; exact tak_same, fun i hi ht => ?_, fun hd => tak_many hd, fun hd => tak_best hc hr hd⟩
 have hcm := tak_comm ht
 have hg := (hc.each i hi).gen
 have hd : pushDo l p up late = true := by unfold takB at ht; rw [Bool.and_eq_true] at ht; exact ht.1
 rw [pushRL_at hr hi, pushAt_tak, if_pos ht]
 exact ⟨hd, rfl, rfl, hg.1, hg.2, fun j hj => done_ids hcm.vote hj⟩
set_option maxRecDepth 100000 in
set_option maxHeartbeats 32000000 in
theorem clusterSafe_any (l : List Rep) (p : Psh) (up late : Int) (cv ov uv : Value) (S S1 : Nat → Prop) (w : World) (h : RepsV S w cv l) (hp : StoreV S1 w ov p.objects ∧ MvsV S1 w uv p.updates) (hup : I64 up) (hlt : I64 late) (ht : Tab w) :
  Calls Tryz.prog 4 #[.agg #[cv], pshV p ov uv, .int .i64 up, .int .i64 late] w fun e w' => e = .returned (.bool true) ∧ Below w.heap.size w w' := by
 have H := Lib.hid h
 have HP := Lib.hid hp
 have HTw := Lib.hid ht
 obtain ⟨ho, hu⟩ := hp
 obtain ⟨oap, ocp, rfl⟩ := ho.vshape
 obtain ⟨⟨uap, ucp⟩, rfl⟩ := hu.shape
 obtain ⟨a, cap, rfl⟩ := h.vshape
 obtain ⟨R, hR, hR1, HB0⟩ := cls_allocs w [.cells #[.slice a l.length cap] 24, .cells #[.slice oap p.objects.length ocp, .slice uap p.updates.length ucp, .bool p.force] 28]
 simp only [List.foldl] at hR1
 have hRb := hR.below
 have hRn := hR.next
 have c0 := fun x (hx : In R x) => block_cell (j := 0) (HB0 x hx 0 _ rfl) rfl
 have p0 := fun x (hx : In R x) => block_cell (j := 0) (HB0 x hx 1 _ rfl) rfl
 have p1 := fun x (hx : In R x) => block_cell (j := 1) (HB0 x hx 1 _ rfl) rfl
 have p2 := fun x (hx : In R x) => block_cell (j := 2) (HB0 x hx 1 _ rfl) rfl
 simp only [Nat.add_zero] at c0
 clear HB0
 have HPu := Lib.hid (fun x (hx : In R x) => cluPush_any l p up late _ _ _ _ _ x (H.out.below (hRb _ hx)) ⟨HP.out.1.below (hRb _ hx), HP.out.2.below (hRb _ hx)⟩ (HTw.out.below (hRb _ hx)))
 simp only [pshV] at HPu
 have cc := c0 _ hR1
 have r0 := p0 _ hR1
 have r1 := p1 _ hR1
 have r2 := p2 _ hR1
 clear h ho hu ht hup hlt
 simp only [pshV]
 by_cases hz : pushCE l p up late = 0
 case neg =>
  have hpl := (pushC_bad hz).1
  have hpd := (pushC_bad hz).2
  rw [hpl, hpd] at HPu
  obtain ⟨pl, hpl2⟩ : ∃ pl : List Rep, pl = [] := ⟨_, rfl⟩
  rw [← hpl2] at HPu
  have Hlp := Lib.hid (show pl.length * 120 ≤ 140737488351232 by rw [hpl2]; decide)
  have hl0 : pl.length = 0 := by rw [hpl2]; rfl
  have q1 : (pushCE l p up late != 0) = true := by simpa using hz
  have Hl0 := Lib.hid hl0
  clear hz hpl hpd hpl2 hl0
  generalize pushCE l p up late = ce at *
  go_enter Tryz.func4, Tryz.ntmps4
  go_wp2_with fail
  refine (HPu.out _ hR1).mono ?_
  rintro e w1 ⟨v1, rfl, ⟨F1, hO1, hF1⟩, hb1⟩
  obtain ⟨a1, c1, rfl⟩ := hO1.shape
  have hR2 := hRn _ _ hR1 hb1
  clear cc r0 r1 r2
  have Hv1 := Lib.hid (hO1.any Hlp.out)
  have hbA : Below w1.heap.size w1 (w1.alloc (.cells #[.slice a1 pl.length c1] 24)) := (Below.refl _ _).alloc (Nat.le_refl _) _
  have hRA := hR.alloc _ (.cells #[.slice a1 pl.length c1] 24) hR2
  have HA := Lib.hid (heap_alloc_new w1 (.cells #[.slice a1 pl.length c1] 24))
  have HvA := Lib.hid (Hv1.out.below hbA)
  clear hO1 hF1 hb1 hbA Hv1
  go_wp2_with fail
  refine (clusterBegun_any _ (HTw.out.below (hRb _ hRA))).mono ?_
  rintro e t0 ⟨rfl, hb2⟩
  have hR3 := hRn _ _ hRA hb2
  have HA2 := Lib.hid (blk_below HA.out hb2)
  have HvA2 := Lib.hid (HvA.out.below hb2)
  clear HA HvA hb2 hRA
  generalize w1.heap.size = DA at *
  have y0 := block_cell (j := 0) HA2.out rfl
  simp only [Hl0.out] at y0
  have HE := Lib.hid (hRb _ hR3)
  go_wp2_with fail
  go_ret
  exact ⟨rfl, HE.out⟩
 case pos =>
  have HS := Lib.hid (safeL hz)
  rw [hz] at HPu
  clear hz
  generalize pushCL l p up late = pl at *
  generalize pushCD l p up late = pd at *
  have Hlp := Lib.hid (show pl.length * 120 ≤ 140737488351232 by rw [HS.out.len]; decide)
  go_enter Tryz.func4, Tryz.ntmps4
  go_wp2_with fail
  refine (HPu.out _ hR1).mono ?_
  rintro e w1 ⟨v1, rfl, ⟨F1, hO1, hF1⟩, hb1⟩
  obtain ⟨a1, c1, rfl⟩ := hO1.shape
  have hR2 := hRn _ _ hR1 hb1
  clear cc r0 r1 r2
  have Hv1 := Lib.hid (hO1.any Hlp.out)
  have hbA : Below w1.heap.size w1 (w1.alloc (.cells #[.slice a1 pl.length c1] 24)) := (Below.refl _ _).alloc (Nat.le_refl _) _
  have hRA := hR.alloc _ (.cells #[.slice a1 pl.length c1] 24) hR2
  have HA := Lib.hid (heap_alloc_new w1 (.cells #[.slice a1 pl.length c1] 24))
  have HvA := Lib.hid (Hv1.out.below hbA)
  clear hO1 hF1 hb1 hbA Hv1
  go_wp2_with fail
  refine (clusterBegun_any _ (HTw.out.below (hRb _ hRA))).mono ?_
  rintro e t0 ⟨rfl, hb2⟩
  have hR3 := hRn _ _ hRA hb2
  have HA2 := Lib.hid (blk_below HA.out hb2)
  have HvA2 := Lib.hid (HvA.out.below hb2)
  clear HA HvA hb2 hRA
  generalize w1.heap.size = DA at *
  have HL3 := Lib.hid HS.out.llen
  have HP3 := Lib.hid HS.out.len
  rw [HL3.out] at c0
  rw [HP3.out] at HA2
  obtain ⟨ax, nx, capx, fr, HNx, ex, _, _, _, h4, h5⟩ := H.out.open
  obtain rfl : nx = 3 := HNx.out.trans HL3.out
  rw [HL3.out] at ex
  cases ex
  obtain ⟨b0, off0, rfl, _, k0, k1, k2, k3, k4, k5, k6⟩ := h4 (by omega)
  have Hk := Lib.hid (And.intro k0 (And.intro k1 (And.intro k2 (And.intro k3 (And.intro k4 (And.intro k5 k6))))))
  have H5 := Lib.hid h5
  clear k0 k1 k2 k3 k4 k5 k6 h4 h5 HNx
  obtain ⟨ay, ny, capy, fa, HNy, ey, _, _, _, h4, h5⟩ := HvA2.out.open
  obtain rfl : ny = 3 := HNy.out.trans HP3.out
  rw [HP3.out] at ey
  cases ey
  obtain ⟨b1, off1, rfl, _, k0, k1, k2, k3, k4, k5, k6⟩ := h4 (by omega)
  have Ha := Lib.hid (And.intro k0 (And.intro k1 (And.intro k2 (And.intro k3 (And.intro k4 (And.intro k5 k6))))))
  have H6 := Lib.hid h5
  clear k0 k1 k2 k3 k4 k5 k6 h4 h5 HNy
  obtain ⟨T, hT, hT1, _⟩ := cls_plain t0
  have hTb := hT.below
  have hTn := hT.next
  have hTR : ∀ x, In T x → In R x := fun x hx => hRn _ _ hR3 (hTb _ hx)
  have HBt := Lib.hid (fun x (hx : In T x) => hRb _ (hTR _ hx))
  have tc := fun x (hx : In T x) => c0 x (hTR _ hx)
  have tA := fun x (hx : In T x) => below_cell (hTb _ hx) (block_cell (j := 0) HA2.out rfl)
  have HCk := Lib.hid (fun x (hx : In T x) => (show Calls Tryz.prog 16 #[.agg #[.slice (some ⟨b1, off1, none⟩) 3 c1]] x fun e w' => e = .returned (.int .i64 0) ∧ Below x.heap.size x w' from by
   have hC := cluCheck_any pl _ _ x (HvA2.out.below (hTb _ hx))
   rw [HS.out.clu, HP3.out] at hC
   exact hC))
  have HNw := Lib.hid (fun x (hx : In T x) => (show Calls Tryz.prog 9 #[.agg #[.slice (some ⟨b1, off1, none⟩) 3 c1]] x fun e w' => e = .returned (.tuple #[.int .i64 (best pl : Nat), .int .i64 0]) ∧ Below x.heap.size x w' from by
   have hC := newest_any pl _ _ x (HvA2.out.below (hTb _ hx))
   rw [HS.out.clu, HS.out.newest, HP3.out] at hC
   exact hC))
  have aa := tA _ hT1
  go_wp2_with fail
  refine (HCk.out _ hT1).mono ?_
  rintro e t1 ⟨rfl, hb3⟩
  have hT2 := hTn _ _ hT1 hb3
  clear aa hb3
  have aa := tA _ hT2
  have cc := tc _ hT2
  go_wp2_with fail
  go_loopw [12, 13] (fun m i wr => ∃ k : Nat, k ≤ 3 ∧ i = .int .i64 k ∧ m = .int .i64 (takN l p up late k : Nat) ∧ In T wr) (fun _ i _ => 3 - (intOf i).toNat)
  case atStart => exact ⟨0, by omega, rfl, rfl, hT2⟩
  case round =>
   obtain ⟨k, hk, rfl, rfl, hTr⟩ := hrel
   clear aa cc
   obtain ⟨wo, rfl⟩ : ∃ wo : World, wo = wr := ⟨_, rfl⟩
   have hNle := takN_le l p up late k
   have aa := tA _ hTr
   by_cases hlt : k < 3
   case pos =>
    have Hn := Lib.hid (show takN l p up late (k + 1) = takN l p up late k + if takB l p up late k = true then 1 else 0 from rfl)
    have hi1 : (0 : Int) ≤ (k : Int) := by omega
    have hi2 : (k : Int) < 3 := by omega
    have Hsm := Lib.hid (HS.out.same k hlt)
    have Htk := Lib.hid (HS.out.tak k hlt)
    have hwn := wrap_in (n := (takN l p up late k : Int) + 1) (by omega)
    go_upto_region 12 with fail
    go_cut [14, 15] (fun s14 s15 wx => ∃ D1 D2, s14 = .pointer (some ⟨D1, 0, none⟩) ∧ s15 = .pointer (some ⟨D2, 0, none⟩) ∧ ∃ y, y = wx ∧ Hid (In T y ∧ y.heap[D1]? = some (.cells #[.slice (fa k).sa (rep pl k).store.length (fa k).sc, .slice (fa k).ra (rep pl k).refs.length (fa k).rc, .int .i64 (rep pl k).gen, .int .i64 (rep pl k).phase, .slice (fa k).oa (rep pl k).pend.objects.length (fa k).oc, .slice (fa k).ua (rep pl k).pend.updates.length (fa k).uc, .bool (rep pl k).pend.force] 43 (0, 0)) ∧ y.heap[D2]? = some (.cells #[.slice (fr k).sa (rep l k).store.length (fr k).sc, .slice (fr k).ra (rep l k).refs.length (fr k).rc, .int .i64 (rep l k).gen, .int .i64 (rep l k).phase, .slice (fr k).oa (rep l k).pend.objects.length (fr k).oc, .slice (fr k).ua (rep l k).pend.updates.length (fr k).uc, .bool (rep l k).pend.force] 43 (0, 0))))
    case first =>
     obtain ⟨Q, hQ, hQ1, hQu⟩ := cls_new wo
     have hQb := hQ.below
     have hQn := hQ.next
     have HQu := Lib.hid hQu
     clear hQu aa
     have HQT := Lib.hid (fun x (hx : In Q x) => hTn _ _ hTr (hQb _ hx))
     have d0 := fun x (hx : In Q x) => tc _ (HQT.out x hx)
     have d1 := fun x (hx : In Q x) => tA _ (HQT.out x hx)
     have e0 := fun x (hx : In Q x) => Ha.out.1 k x hlt (hTb _ (HQT.out x hx))
     have g0 := fun x (hx : In Q x) => Hk.out.1 k x hlt (HBt.out _ (HQT.out x hx))
     have e1 := fun x (hx : In Q x) => Ha.out.2.1 k x hlt (hTb _ (HQT.out x hx))
     have g1 := fun x (hx : In Q x) => Hk.out.2.1 k x hlt (HBt.out _ (HQT.out x hx))
     have e2 := fun x (hx : In Q x) => Ha.out.2.2.1 k x hlt (hTb _ (HQT.out x hx))
     have g2 := fun x (hx : In Q x) => Hk.out.2.2.1 k x hlt (HBt.out _ (HQT.out x hx))
     have e3 := fun x (hx : In Q x) => Ha.out.2.2.2.1 k x hlt (hTb _ (HQT.out x hx))
     have g3 := fun x (hx : In Q x) => Hk.out.2.2.2.1 k x hlt (HBt.out _ (HQT.out x hx))
     have e4 := fun x (hx : In Q x) => Ha.out.2.2.2.2.1 k x hlt (hTb _ (HQT.out x hx))
     have g4 := fun x (hx : In Q x) => Hk.out.2.2.2.2.1 k x hlt (HBt.out _ (HQT.out x hx))
     have e5 := fun x (hx : In Q x) => Ha.out.2.2.2.2.2.1 k x hlt (hTb _ (HQT.out x hx))
     have g5 := fun x (hx : In Q x) => Hk.out.2.2.2.2.2.1 k x hlt (HBt.out _ (HQT.out x hx))
     have e6 := fun x (hx : In Q x) => Ha.out.2.2.2.2.2.2 k x hlt (hTb _ (HQT.out x hx))
     have g6 := fun x (hx : In Q x) => Hk.out.2.2.2.2.2.2 k x hlt (HBt.out _ (HQT.out x hx))
     refine wp_region_held (S := In Q) (by kernel_rfl) ?_
     change wpAnyH _ _ _ _ _ _ _ _ (World.drew _)
     have hC0 := hQ.drew _ hQ1
     generalize hx0 : wo.drew = x0 at hC0 ⊢
     clear hx0
     refine wpAnyH_take (i := 0) (v := .pointer (some ⟨DA, 0, none⟩)) rfl (by kernel_rfl) (by kernel_rfl) (by kernel_rfl) (fun _ _ _ h => h) (Or.inl ⟨by rfl, fun w hSw => ?_⟩) hC0 ?_
     ·go_simp
     simp only [Act.put, List.getElem_toArray, List.getElem_cons_zero, List.getElem_cons_succ, List.setIfInBounds_toArray, List.set_cons_zero, List.set_cons_succ]
     refine wpAnyH_take (i := 1) (v := .slice (some ⟨b1, off1, none⟩) 3 c1) rfl (by kernel_rfl) (by kernel_rfl) (by kernel_rfl) (fun _ _ _ h => h) (Or.inl ⟨by rfl, fun w hSw => ?_⟩) hC0 ?_
     ·have yy := d1 _ hSw; go_simp
     simp only [Act.put, List.getElem_toArray, List.getElem_cons_zero, List.getElem_cons_succ, List.setIfInBounds_toArray, List.set_cons_zero, List.set_cons_succ]
     refine wpAnyH_take (i := 2) (v := .int .i64 (k : Int)) rfl (by kernel_rfl) (by kernel_rfl) (by kernel_rfl) (fun _ _ _ h => h) (Or.inl ⟨by rfl, fun w hSw => ?_⟩) hC0 ?_
     ·go_simp
     simp only [Act.put, List.getElem_toArray, List.getElem_cons_zero, List.getElem_cons_succ, List.setIfInBounds_toArray, List.set_cons_zero, List.set_cons_succ]
     refine wpAnyH_take (i := 3) (v := .pointer (some ⟨b1, off1 + k * 7, none⟩)) rfl (by kernel_rfl) (by kernel_rfl) (by kernel_rfl) (fun _ _ _ h => h) (Or.inl ⟨by rfl, fun w hSw => ?_⟩) hC0 ?_
     ·go_simp
     simp only [Act.put, List.getElem_toArray, List.getElem_cons_zero, List.getElem_cons_succ, List.setIfInBounds_toArray, List.set_cons_zero, List.set_cons_succ]
     refine wpAnyH_take (i := 4) (v := .agg #[.slice (fa k).sa (rep pl k).store.length (fa k).sc, .slice (fa k).ra (rep pl k).refs.length (fa k).rc, .int .i64 (rep pl k).gen, .int .i64 (rep pl k).phase, .slice (fa k).oa (rep pl k).pend.objects.length (fa k).oc, .slice (fa k).ua (rep pl k).pend.updates.length (fa k).uc, .bool (rep pl k).pend.force]) rfl (by kernel_rfl) (by kernel_rfl) (by kernel_rfl) (fun _ _ _ h => h) (Or.inl ⟨by rfl, fun w hSw => ?_⟩) hC0 ?_
     ·have y0 := e0 _ hSw; have y1 := e1 _ hSw; have y2 := e2 _ hSw; have y3 := e3 _ hSw; have y4 := e4 _ hSw; have y5 := e5 _ hSw; have y6 := e6 _ hSw; go_simp
     simp only [Act.put, List.getElem_toArray, List.getElem_cons_zero, List.getElem_cons_succ, List.setIfInBounds_toArray, List.set_cons_zero, List.set_cons_succ]
     refine wpAnyH_take (i := 5) (v := .pointer (some ⟨w.heap.size, 0, none⟩)) rfl (by kernel_rfl) (by kernel_rfl) (by kernel_rfl) (fun _ _ _ h => h) (Or.inl ⟨by rfl, fun w hSw => ?_⟩) hC0 ?_
     ·go_simp
     simp only [Act.put, List.getElem_toArray, List.getElem_cons_zero, List.getElem_cons_succ, List.setIfInBounds_toArray, List.set_cons_zero, List.set_cons_succ]
     refine wpAnyH_take (i := 6) (v := .slice (some ⟨b0, off0, none⟩) 3 cap) rfl (by kernel_rfl) (by kernel_rfl) (by kernel_rfl) (fun _ _ _ h => h) (Or.inl ⟨by rfl, fun w hSw => ?_⟩) hC0 ?_
     ·have yy := d0 _ hSw; go_simp
     simp only [Act.put, List.getElem_toArray, List.getElem_cons_zero, List.getElem_cons_succ, List.setIfInBounds_toArray, List.set_cons_zero, List.set_cons_succ]
     refine wpAnyH_take (i := 7) (v := .int .i64 (k : Int)) rfl (by kernel_rfl) (by kernel_rfl) (by kernel_rfl) (fun _ _ _ h => h) (Or.inl ⟨by rfl, fun w hSw => ?_⟩) hC0 ?_
     ·go_simp
     simp only [Act.put, List.getElem_toArray, List.getElem_cons_zero, List.getElem_cons_succ, List.setIfInBounds_toArray, List.set_cons_zero, List.set_cons_succ]
     refine wpAnyH_take (i := 8) (v := .pointer (some ⟨b0, off0 + k * 7, none⟩)) rfl (by kernel_rfl) (by kernel_rfl) (by kernel_rfl) (fun _ _ _ h => h) (Or.inl ⟨by rfl, fun w hSw => ?_⟩) hC0 ?_
     ·go_simp
     simp only [Act.put, List.getElem_toArray, List.getElem_cons_zero, List.getElem_cons_succ, List.setIfInBounds_toArray, List.set_cons_zero, List.set_cons_succ]
     refine wpAnyH_take (i := 9) (v := .agg #[.slice (fr k).sa (rep l k).store.length (fr k).sc, .slice (fr k).ra (rep l k).refs.length (fr k).rc, .int .i64 (rep l k).gen, .int .i64 (rep l k).phase, .slice (fr k).oa (rep l k).pend.objects.length (fr k).oc, .slice (fr k).ua (rep l k).pend.updates.length (fr k).uc, .bool (rep l k).pend.force]) rfl (by kernel_rfl) (by kernel_rfl) (by kernel_rfl) (fun _ _ _ h => h) (Or.inl ⟨by rfl, fun w hSw => ?_⟩) hC0 ?_
     ·have y0 := g0 _ hSw; have y1 := g1 _ hSw; have y2 := g2 _ hSw; have y3 := g3 _ hSw; have y4 := g4 _ hSw; have y5 := g5 _ hSw; have y6 := g6 _ hSw; go_simp
     simp only [Act.put, List.getElem_toArray, List.getElem_cons_zero, List.getElem_cons_succ, List.setIfInBounds_toArray, List.set_cons_zero, List.set_cons_succ]
     refine wpAnyH_all (rs := [10, 11]) (by kernel_rfl) (by simp) (fun j hj => ?_)
     rcases List.mem_cons.1 hj with rfl | hj
     ·skip
      refine Or.inl ?_
      have hC1 := hQ.alloc _ (.cells #[.slice none 0 0, .slice none 0 0, .int .i64 0, .int .i64 0, .slice none 0 0, .slice none 0 0, .bool false] 43) hC0
      go_simp
      have hbA : Below x0.heap.size x0 (x0.alloc (.cells #[.slice none 0 0, .slice none 0 0, .int .i64 0, .int .i64 0, .slice none 0 0, .slice none 0 0, .bool false] 43)) := (Below.refl _ _).alloc (Nat.le_refl _) _
      have HD1b := Lib.hid (heap_alloc_new x0 (.cells #[.slice none 0 0, .slice none 0 0, .int .i64 0, .int .i64 0, .slice none 0 0, .slice none 0 0, .bool false] 43))
      have HD1ge := Lib.hid (hQb _ hC0).size
      clear hbA
      generalize x0.heap.size = D1 at *
      generalize x0.alloc (.cells #[.slice none 0 0, .slice none 0 0, .int .i64 0, .int .i64 0, .slice none 0 0, .slice none 0 0, .bool false] 43) = x1 at *
      refine wpAnyH_all (rs := [11]) (by kernel_rfl) (by simp) (fun j hj => ?_)
      obtain rfl : j = 11 := by simpa using hj
      refine Or.inl ?_
      have hC2 := hQ.alloc _ (.cells #[.slice none 0 0, .slice none 0 0, .int .i64 0, .int .i64 0, .slice none 0 0, .slice none 0 0, .bool false] 43) hC1
      go_simp
      have hbA : Below x1.heap.size x1 (x1.alloc (.cells #[.slice none 0 0, .slice none 0 0, .int .i64 0, .int .i64 0, .slice none 0 0, .slice none 0 0, .bool false] 43)) := (Below.refl _ _).alloc (Nat.le_refl _) _
      have HD2b := Lib.hid (heap_alloc_new x1 (.cells #[.slice none 0 0, .slice none 0 0, .int .i64 0, .int .i64 0, .slice none 0 0, .slice none 0 0, .bool false] 43))
      have HD2ge := Lib.hid (hQb _ hC1).size
      have Hne := Lib.hid (show D1 ≠ x1.heap.size from fun e => by have := lt_of_block HD1b.out; omega)
      replace HD1b := Lib.hid (blk_below HD1b.out hbA)
      clear hbA
      generalize x1.heap.size = D2 at *
      generalize x1.alloc (.cells #[.slice none 0 0, .slice none 0 0, .int .i64 0, .int .i64 0, .slice none 0 0, .slice none 0 0, .bool false] 43) = x2 at *
      refine wpAnyH_all (rs := [12]) (by kernel_rfl) (by simp) (fun j hj => ?_)
      obtain rfl : j = 12 := by simpa using hj
      refine Or.inl ?_
      have hblk := HD1b.out
      have m0 := block_cell (j := 0) hblk rfl
      have f0 := block_free (j := 0) hblk
      have m1 := block_cell (j := 1) hblk rfl
      have f1 := block_free (j := 1) hblk
      have m2 := block_cell (j := 2) hblk rfl
      have f2 := block_free (j := 2) hblk
      have m3 := block_cell (j := 3) hblk rfl
      have f3 := block_free (j := 3) hblk
      have m4 := block_cell (j := 4) hblk rfl
      have f4 := block_free (j := 4) hblk
      have m5 := block_cell (j := 5) hblk rfl
      have f5 := block_free (j := 5) hblk
      have m6 := block_cell (j := 6) hblk rfl
      have f6 := block_free (j := 6) hblk
      have Hb7 := Lib.hid (set7_is (v0 := .slice (fa k).sa (rep pl k).store.length (fa k).sc) (v1 := .slice (fa k).ra (rep pl k).refs.length (fa k).rc) (v2 := .int .i64 (rep pl k).gen) (v3 := .int .i64 (rep pl k).phase) (v4 := .slice (fa k).oa (rep pl k).pend.objects.length (fa k).oc) (v5 := .slice (fa k).ua (rep pl k).pend.updates.length (fa k).uc) (v6 := .bool (rep pl k).pend.force) hblk)
      have Hu7 := Lib.hid (set7_upd D1 (.slice (fa k).sa (rep pl k).store.length (fa k).sc) (.slice (fa k).ra (rep pl k).refs.length (fa k).rc) (.int .i64 (rep pl k).gen) (.int .i64 (rep pl k).phase) (.slice (fa k).oa (rep pl k).pend.objects.length (fa k).oc) (.slice (fa k).ua (rep pl k).pend.updates.length (fa k).uc) (.bool (rep pl k).pend.force) x2)
      have hC3 := HQu.out _ _ _ hC2 Hu7.out (fun b hb => by have := HD1ge.out; have e2 : b = D1 := hb; omega)
      have Ho7 := Lib.hid (Hu7.out.blk HD2b.out (fun e => by have e2 : D2 = D1 := e; exact Hne.out (by first | exact e2 | exact e2.symm)))
      go_wp2_with fail
      first | refine ⟨hC3, ?_⟩ | skip
      change wpAnyH _ _ _ _ _ _ _ _ (set7 D1 (.slice (fa k).sa (rep pl k).store.length (fa k).sc) (.slice (fa k).ra (rep pl k).refs.length (fa k).rc) (.int .i64 (rep pl k).gen) (.int .i64 (rep pl k).phase) (.slice (fa k).oa (rep pl k).pend.objects.length (fa k).oc) (.slice (fa k).ua (rep pl k).pend.updates.length (fa k).uc) (.bool (rep pl k).pend.force) x2)
      clear hblk Hu7 m0 m1 m2 m3 m4 m5 m6 f0 f1 f2 f3 f4 f5 f6
      generalize set7 D1 (.slice (fa k).sa (rep pl k).store.length (fa k).sc) (.slice (fa k).ra (rep pl k).refs.length (fa k).rc) (.int .i64 (rep pl k).gen) (.int .i64 (rep pl k).phase) (.slice (fa k).oa (rep pl k).pend.objects.length (fa k).oc) (.slice (fa k).ua (rep pl k).pend.updates.length (fa k).uc) (.bool (rep pl k).pend.force) x2 = x3 at *
      replace HD1b := Hb7
      replace HD2b := Ho7
      clear Hb7 Ho7
      refine wpAnyH_all (rs := [13]) (by kernel_rfl) (by simp) (fun j hj => ?_)
      obtain rfl : j = 13 := by simpa using hj
      refine Or.inl ?_
      have hblk := HD2b.out
      have m0 := block_cell (j := 0) hblk rfl
      have f0 := block_free (j := 0) hblk
      have m1 := block_cell (j := 1) hblk rfl
      have f1 := block_free (j := 1) hblk
      have m2 := block_cell (j := 2) hblk rfl
      have f2 := block_free (j := 2) hblk
      have m3 := block_cell (j := 3) hblk rfl
      have f3 := block_free (j := 3) hblk
      have m4 := block_cell (j := 4) hblk rfl
      have f4 := block_free (j := 4) hblk
      have m5 := block_cell (j := 5) hblk rfl
      have f5 := block_free (j := 5) hblk
      have m6 := block_cell (j := 6) hblk rfl
      have f6 := block_free (j := 6) hblk
      have Hb7 := Lib.hid (set7_is (v0 := .slice (fr k).sa (rep l k).store.length (fr k).sc) (v1 := .slice (fr k).ra (rep l k).refs.length (fr k).rc) (v2 := .int .i64 (rep l k).gen) (v3 := .int .i64 (rep l k).phase) (v4 := .slice (fr k).oa (rep l k).pend.objects.length (fr k).oc) (v5 := .slice (fr k).ua (rep l k).pend.updates.length (fr k).uc) (v6 := .bool (rep l k).pend.force) hblk)
      have Hu7 := Lib.hid (set7_upd D2 (.slice (fr k).sa (rep l k).store.length (fr k).sc) (.slice (fr k).ra (rep l k).refs.length (fr k).rc) (.int .i64 (rep l k).gen) (.int .i64 (rep l k).phase) (.slice (fr k).oa (rep l k).pend.objects.length (fr k).oc) (.slice (fr k).ua (rep l k).pend.updates.length (fr k).uc) (.bool (rep l k).pend.force) x3)
      have hC4 := HQu.out _ _ _ hC3 Hu7.out (fun b hb => by have := HD2ge.out; have e2 : b = D2 := hb; omega)
      have Ho7 := Lib.hid (Hu7.out.blk HD1b.out (fun e => by have e2 : D1 = D2 := e; exact Hne.out (by first | exact e2 | exact e2.symm)))
      go_wp2_with fail
      first | refine ⟨hC4, by kernel_rfl, ?_⟩ | refine ⟨by kernel_rfl, ?_⟩
      first | change Exit.then _ _ _ _ (set7 D2 (.slice (fr k).sa (rep l k).store.length (fr k).sc) (.slice (fr k).ra (rep l k).refs.length (fr k).rc) (.int .i64 (rep l k).gen) (.int .i64 (rep l k).phase) (.slice (fr k).oa (rep l k).pend.objects.length (fr k).oc) (.slice (fr k).ua (rep l k).pend.updates.length (fr k).uc) (.bool (rep l k).pend.force) x3) | change Exit.inBlock _ _ _ _ (set7 D2 (.slice (fr k).sa (rep l k).store.length (fr k).sc) (.slice (fr k).ra (rep l k).refs.length (fr k).rc) (.int .i64 (rep l k).gen) (.int .i64 (rep l k).phase) (.slice (fr k).oa (rep l k).pend.objects.length (fr k).oc) (.slice (fr k).ua (rep l k).pend.updates.length (fr k).uc) (.bool (rep l k).pend.force) x3)
      clear hblk Hu7 m0 m1 m2 m3 m4 m5 m6 f0 f1 f2 f3 f4 f5 f6
      generalize set7 D2 (.slice (fr k).sa (rep l k).store.length (fr k).sc) (.slice (fr k).ra (rep l k).refs.length (fr k).rc) (.int .i64 (rep l k).gen) (.int .i64 (rep l k).phase) (.slice (fr k).oa (rep l k).pend.objects.length (fr k).oc) (.slice (fr k).ua (rep l k).pend.updates.length (fr k).uc) (.bool (rep l k).pend.force) x3 = x4 at *
      replace HD2b := Hb7
      replace HD1b := Ho7
      clear Hb7 Ho7
      have HEnd := Lib.hid (show In T x4 ∧ x4.heap[D1]? = some (.cells #[.slice (fa k).sa (rep pl k).store.length (fa k).sc, .slice (fa k).ra (rep pl k).refs.length (fa k).rc, .int .i64 (rep pl k).gen, .int .i64 (rep pl k).phase, .slice (fa k).oa (rep pl k).pend.objects.length (fa k).oc, .slice (fa k).ua (rep pl k).pend.updates.length (fa k).uc, .bool (rep pl k).pend.force] 43 (0, 0)) ∧ x4.heap[D2]? = some (.cells #[.slice (fr k).sa (rep l k).store.length (fr k).sc, .slice (fr k).ra (rep l k).refs.length (fr k).rc, .int .i64 (rep l k).gen, .int .i64 (rep l k).phase, .slice (fr k).oa (rep l k).pend.objects.length (fr k).oc, .slice (fr k).ua (rep l k).pend.updates.length (fr k).uc, .bool (rep l k).pend.force] 43 (0, 0)) from ⟨HQT.out _ hC4, HD1b.out, HD2b.out⟩)
      go_wp2_with fail
      go_meet
      exact ⟨D1, D2, rfl, rfl, x4, rfl, HEnd⟩
     ·skip
      obtain rfl : j = 11 := by simpa using hj
      refine Or.inl ?_
      have hC1 := hQ.alloc _ (.cells #[.slice none 0 0, .slice none 0 0, .int .i64 0, .int .i64 0, .slice none 0 0, .slice none 0 0, .bool false] 43) hC0
      go_simp
      have hbA : Below x0.heap.size x0 (x0.alloc (.cells #[.slice none 0 0, .slice none 0 0, .int .i64 0, .int .i64 0, .slice none 0 0, .slice none 0 0, .bool false] 43)) := (Below.refl _ _).alloc (Nat.le_refl _) _
      have HD2b := Lib.hid (heap_alloc_new x0 (.cells #[.slice none 0 0, .slice none 0 0, .int .i64 0, .int .i64 0, .slice none 0 0, .slice none 0 0, .bool false] 43))
      have HD2ge := Lib.hid (hQb _ hC0).size
      clear hbA
      generalize x0.heap.size = D2 at *
      generalize x0.alloc (.cells #[.slice none 0 0, .slice none 0 0, .int .i64 0, .int .i64 0, .slice none 0 0, .slice none 0 0, .bool false] 43) = x1 at *
      refine wpAnyH_all (rs := [10]) (by kernel_rfl) (by simp) (fun j hj => ?_)
      obtain rfl : j = 10 := by simpa using hj
      refine Or.inl ?_
      have hC2 := hQ.alloc _ (.cells #[.slice none 0 0, .slice none 0 0, .int .i64 0, .int .i64 0, .slice none 0 0, .slice none 0 0, .bool false] 43) hC1
      go_simp
      have hbA : Below x1.heap.size x1 (x1.alloc (.cells #[.slice none 0 0, .slice none 0 0, .int .i64 0, .int .i64 0, .slice none 0 0, .slice none 0 0, .bool false] 43)) := (Below.refl _ _).alloc (Nat.le_refl _) _
      have HD1b := Lib.hid (heap_alloc_new x1 (.cells #[.slice none 0 0, .slice none 0 0, .int .i64 0, .int .i64 0, .slice none 0 0, .slice none 0 0, .bool false] 43))
      have HD1ge := Lib.hid (hQb _ hC1).size
      have Hne := Lib.hid (show D2 ≠ x1.heap.size from fun e => by have := lt_of_block HD2b.out; omega)
      replace HD2b := Lib.hid (blk_below HD2b.out hbA)
      clear hbA
      generalize x1.heap.size = D1 at *
      generalize x1.alloc (.cells #[.slice none 0 0, .slice none 0 0, .int .i64 0, .int .i64 0, .slice none 0 0, .slice none 0 0, .bool false] 43) = x2 at *
      refine wpAnyH_all (rs := [12]) (by kernel_rfl) (by simp) (fun j hj => ?_)
      obtain rfl : j = 12 := by simpa using hj
      refine Or.inl ?_
      have hblk := HD1b.out
      have m0 := block_cell (j := 0) hblk rfl
      have f0 := block_free (j := 0) hblk
      have m1 := block_cell (j := 1) hblk rfl
      have f1 := block_free (j := 1) hblk
      have m2 := block_cell (j := 2) hblk rfl
      have f2 := block_free (j := 2) hblk
      have m3 := block_cell (j := 3) hblk rfl
      have f3 := block_free (j := 3) hblk
      have m4 := block_cell (j := 4) hblk rfl
      have f4 := block_free (j := 4) hblk
      have m5 := block_cell (j := 5) hblk rfl
      have f5 := block_free (j := 5) hblk
      have m6 := block_cell (j := 6) hblk rfl
      have f6 := block_free (j := 6) hblk
      have Hb7 := Lib.hid (set7_is (v0 := .slice (fa k).sa (rep pl k).store.length (fa k).sc) (v1 := .slice (fa k).ra (rep pl k).refs.length (fa k).rc) (v2 := .int .i64 (rep pl k).gen) (v3 := .int .i64 (rep pl k).phase) (v4 := .slice (fa k).oa (rep pl k).pend.objects.length (fa k).oc) (v5 := .slice (fa k).ua (rep pl k).pend.updates.length (fa k).uc) (v6 := .bool (rep pl k).pend.force) hblk)
      have Hu7 := Lib.hid (set7_upd D1 (.slice (fa k).sa (rep pl k).store.length (fa k).sc) (.slice (fa k).ra (rep pl k).refs.length (fa k).rc) (.int .i64 (rep pl k).gen) (.int .i64 (rep pl k).phase) (.slice (fa k).oa (rep pl k).pend.objects.length (fa k).oc) (.slice (fa k).ua (rep pl k).pend.updates.length (fa k).uc) (.bool (rep pl k).pend.force) x2)
      have hC3 := HQu.out _ _ _ hC2 Hu7.out (fun b hb => by have := HD1ge.out; have e2 : b = D1 := hb; omega)
      have Ho7 := Lib.hid (Hu7.out.blk HD2b.out (fun e => by have e2 : D2 = D1 := e; exact Hne.out (by first | exact e2 | exact e2.symm)))
      go_wp2_with fail
      first | refine ⟨hC3, ?_⟩ | skip
      change wpAnyH _ _ _ _ _ _ _ _ (set7 D1 (.slice (fa k).sa (rep pl k).store.length (fa k).sc) (.slice (fa k).ra (rep pl k).refs.length (fa k).rc) (.int .i64 (rep pl k).gen) (.int .i64 (rep pl k).phase) (.slice (fa k).oa (rep pl k).pend.objects.length (fa k).oc) (.slice (fa k).ua (rep pl k).pend.updates.length (fa k).uc) (.bool (rep pl k).pend.force) x2)
      clear hblk Hu7 m0 m1 m2 m3 m4 m5 m6 f0 f1 f2 f3 f4 f5 f6
      generalize set7 D1 (.slice (fa k).sa (rep pl k).store.length (fa k).sc) (.slice (fa k).ra (rep pl k).refs.length (fa k).rc) (.int .i64 (rep pl k).gen) (.int .i64 (rep pl k).phase) (.slice (fa k).oa (rep pl k).pend.objects.length (fa k).oc) (.slice (fa k).ua (rep pl k).pend.updates.length (fa k).uc) (.bool (rep pl k).pend.force) x2 = x3 at *
      replace HD1b := Hb7
      replace HD2b := Ho7
      clear Hb7 Ho7
      refine wpAnyH_all (rs := [13]) (by kernel_rfl) (by simp) (fun j hj => ?_)
      obtain rfl : j = 13 := by simpa using hj
      refine Or.inl ?_
      have hblk := HD2b.out
      have m0 := block_cell (j := 0) hblk rfl
      have f0 := block_free (j := 0) hblk
      have m1 := block_cell (j := 1) hblk rfl
      have f1 := block_free (j := 1) hblk
      have m2 := block_cell (j := 2) hblk rfl
      have f2 := block_free (j := 2) hblk
      have m3 := block_cell (j := 3) hblk rfl
      have f3 := block_free (j := 3) hblk
      have m4 := block_cell (j := 4) hblk rfl
      have f4 := block_free (j := 4) hblk
      have m5 := block_cell (j := 5) hblk rfl
      have f5 := block_free (j := 5) hblk
      have m6 := block_cell (j := 6) hblk rfl
      have f6 := block_free (j := 6) hblk
      have Hb7 := Lib.hid (set7_is (v0 := .slice (fr k).sa (rep l k).store.length (fr k).sc) (v1 := .slice (fr k).ra (rep l k).refs.length (fr k).rc) (v2 := .int .i64 (rep l k).gen) (v3 := .int .i64 (rep l k).phase) (v4 := .slice (fr k).oa (rep l k).pend.objects.length (fr k).oc) (v5 := .slice (fr k).ua (rep l k).pend.updates.length (fr k).uc) (v6 := .bool (rep l k).pend.force) hblk)
      have Hu7 := Lib.hid (set7_upd D2 (.slice (fr k).sa (rep l k).store.length (fr k).sc) (.slice (fr k).ra (rep l k).refs.length (fr k).rc) (.int .i64 (rep l k).gen) (.int .i64 (rep l k).phase) (.slice (fr k).oa (rep l k).pend.objects.length (fr k).oc) (.slice (fr k).ua (rep l k).pend.updates.length (fr k).uc) (.bool (rep l k).pend.force) x3)
      have hC4 := HQu.out _ _ _ hC3 Hu7.out (fun b hb => by have := HD2ge.out; have e2 : b = D2 := hb; omega)
      have Ho7 := Lib.hid (Hu7.out.blk HD1b.out (fun e => by have e2 : D1 = D2 := e; exact Hne.out (by first | exact e2 | exact e2.symm)))
      go_wp2_with fail
      first | refine ⟨hC4, by kernel_rfl, ?_⟩ | refine ⟨by kernel_rfl, ?_⟩
      first | change Exit.then _ _ _ _ (set7 D2 (.slice (fr k).sa (rep l k).store.length (fr k).sc) (.slice (fr k).ra (rep l k).refs.length (fr k).rc) (.int .i64 (rep l k).gen) (.int .i64 (rep l k).phase) (.slice (fr k).oa (rep l k).pend.objects.length (fr k).oc) (.slice (fr k).ua (rep l k).pend.updates.length (fr k).uc) (.bool (rep l k).pend.force) x3) | change Exit.inBlock _ _ _ _ (set7 D2 (.slice (fr k).sa (rep l k).store.length (fr k).sc) (.slice (fr k).ra (rep l k).refs.length (fr k).rc) (.int .i64 (rep l k).gen) (.int .i64 (rep l k).phase) (.slice (fr k).oa (rep l k).pend.objects.length (fr k).oc) (.slice (fr k).ua (rep l k).pend.updates.length (fr k).uc) (.bool (rep l k).pend.force) x3)
      clear hblk Hu7 m0 m1 m2 m3 m4 m5 m6 f0 f1 f2 f3 f4 f5 f6
      generalize set7 D2 (.slice (fr k).sa (rep l k).store.length (fr k).sc) (.slice (fr k).ra (rep l k).refs.length (fr k).rc) (.int .i64 (rep l k).gen) (.int .i64 (rep l k).phase) (.slice (fr k).oa (rep l k).pend.objects.length (fr k).oc) (.slice (fr k).ua (rep l k).pend.updates.length (fr k).uc) (.bool (rep l k).pend.force) x3 = x4 at *
      replace HD2b := Hb7
      replace HD1b := Ho7
      clear Hb7 Ho7
      have HEnd := Lib.hid (show In T x4 ∧ x4.heap[D1]? = some (.cells #[.slice (fa k).sa (rep pl k).store.length (fa k).sc, .slice (fa k).ra (rep pl k).refs.length (fa k).rc, .int .i64 (rep pl k).gen, .int .i64 (rep pl k).phase, .slice (fa k).oa (rep pl k).pend.objects.length (fa k).oc, .slice (fa k).ua (rep pl k).pend.updates.length (fa k).uc, .bool (rep pl k).pend.force] 43 (0, 0)) ∧ x4.heap[D2]? = some (.cells #[.slice (fr k).sa (rep l k).store.length (fr k).sc, .slice (fr k).ra (rep l k).refs.length (fr k).rc, .int .i64 (rep l k).gen, .int .i64 (rep l k).phase, .slice (fr k).oa (rep l k).pend.objects.length (fr k).oc, .slice (fr k).ua (rep l k).pend.updates.length (fr k).uc, .bool (rep l k).pend.force] 43 (0, 0)) from ⟨HQT.out _ hC4, HD1b.out, HD2b.out⟩)
      go_wp2_with fail
      go_meet
      exact ⟨D1, D2, rfl, rfl, x4, rfl, HEnd⟩
    case rest =>
     obtain ⟨D1, D2, rfl, rfl, y1, rfl, HK9⟩ := hcut
     obtain ⟨hTy, hD1, hD2⟩ := HK9.out
     have HD1 := Lib.hid hD1
     have HD2 := Lib.hid hD2
     clear HK9 hD1 hD2 aa
     have m0 := block_cell (j := 0) HD1.out rfl
     have o0 := block_cell (j := 0) HD2.out rfl
     have m1 := block_cell (j := 1) HD1.out rfl
     have o1 := block_cell (j := 1) HD2.out rfl
     have m2 := block_cell (j := 2) HD1.out rfl
     have o2 := block_cell (j := 2) HD2.out rfl
     have m3 := block_cell (j := 3) HD1.out rfl
     have o3 := block_cell (j := 3) HD2.out rfl
     have m4 := block_cell (j := 4) HD1.out rfl
     have o4 := block_cell (j := 4) HD2.out rfl
     have m5 := block_cell (j := 5) HD1.out rfl
     have o5 := block_cell (j := 5) HD2.out rfl
     have m6 := block_cell (j := 6) HD1.out rfl
     have o6 := block_cell (j := 6) HD2.out rfl
     have HSr := Lib.hid (sameReplica_any (rep pl k) (rep l k) _ _ _ _ _ _ _ _ _ _ y1 ((H6.out k hlt).below (hTb _ hTy)) ((H5.out k hlt).below (HBt.out _ hTy)))
     simp only [repV] at HSr
     rw [Hsm.out] at HSr
     go_wp2_with fail
     refine HSr.out.mono ?_
     rintro e y2 ⟨rfl, hb4⟩
     have hT4 := hTn _ _ hTy hb4
     have HD14 := Lib.hid (blk_below HD1.out hb4)
     have HD24 := Lib.hid (blk_below HD2.out hb4)
     clear HSr HD1 HD2 hb4 m0 m1 m2 m3 m4 m5 m6 o0 o1 o2 o3 o4 o5 o6
     cases htb : takB l p up late k
     case false =>
      have Hr := Lib.hid (show takN l p up late (k + 1) = takN l p up late k by rw [Hn.out, htb, if_neg (by simp)]; rfl)
      clear Hn hwn
      generalize takN l p up late k = N at *
      go_wp2_with fail
      go_roundw
      case rel => exact ⟨k + 1, by omega, by go_num, by rw [Hr.out], hT4⟩
      case measure => simp [intOf]; omega
     case true =>
      obtain ⟨hpd, hg1, hg2, hg3, hg4, hid⟩ := Htk.out htb
      subst hpd
      have HdI := Lib.hid hid
      have Hr := Lib.hid (show takN l p up late (k + 1) = takN l p up late k + 1 by rw [Hn.out, htb, if_pos rfl])
      have m2 := block_cell (j := 2) HD14.out rfl
      have m3 := block_cell (j := 3) HD14.out rfl
      have o2 := block_cell (j := 2) HD24.out rfl
      simp only [List.getElem_toArray, List.getElem_cons_zero, List.getElem_cons_succ] at m2 m3 o2
      rw [hg1] at m2
      rw [hg2] at m3
      have hwg := wrap_in (n := (rep l k).gen + 1) (by omega)
      have q3 : ((rep l k).gen + 1 != (rep l k).gen + 1) = false := by simp
      have HMu := Lib.hid (HP.out.2)
      generalize hmn : takN l p up late k = N at *
      clear hmn
      clear Hn hid hg1 hg2
      have u0 := p1 _ (hTR _ hT4)
      go_wp2_with fail
      obtain ⟨au, nu, capu, HNu, eu, _, _, _, h7⟩ := HP.out.2.open
      cases eu
      have Hu7 := Lib.hid h7
      clear h7
      go_loopw [16] (fun j wr => ∃ m : Nat, m ≤ p.updates.length ∧ j = .int .i64 m ∧ In T wr ∧ Hid (wr.heap[D1]? = some (.cells #[.slice (fa k).sa (rep pl k).store.length (fa k).sc, .slice (fa k).ra (rep pl k).refs.length (fa k).rc, .int .i64 (rep pl k).gen, .int .i64 (rep pl k).phase, .slice (fa k).oa (rep pl k).pend.objects.length (fa k).oc, .slice (fa k).ua (rep pl k).pend.updates.length (fa k).uc, .bool (rep pl k).pend.force] 43 (0, 0)))) (fun j _ => p.updates.length - (intOf j).toNat)
      case atStart => exact ⟨0, Nat.zero_le _, rfl, hT4, HD14.out⟩
      case round =>
       obtain ⟨m, hm, rfl, hTm, HDm⟩ := hrel
       clear m2 m3 o2 u0 HD14 HD24
       obtain ⟨wi, rfl⟩ : ∃ wi : World, wi = wr := ⟨_, rfl⟩
       have u0 := p1 _ (hTR _ hTm)
       by_cases hml : m < p.updates.length
       case neg =>
        obtain rfl : m = p.updates.length := by omega
        go_wp2_with fail
        go_roundw
        case rel => exact ⟨k + 1, by omega, by go_num, by rw [Hr.out]; go_num, hTm⟩
        case measure => simp [intOf]; omega
       case pos =>
        obtain ⟨bu, ou, rfl, _, hn0, _, hn2⟩ := Hu7.out (by omega)
        have hj1 : (0 : Int) ≤ (m : Int) := by omega
        have hj2 : (m : Int) < (p.updates.length : Int) := by omega
        obtain ⟨Q, hQ, hQ1, _⟩ := cls_plain wi
        have hQb := hQ.below
        have hQn := hQ.next
        have HQT := Lib.hid (fun x (hx : In Q x) => hTn _ _ hTm (hQb _ hx))
        have e0 := fun x (hx : In Q x) => p1 _ (hTR _ (HQT.out x hx))
        have e1 := fun x (hx : In Q x) => block_cell (j := 1) (blk_below HDm.out (hQb _ hx)) rfl
        have e2 := fun x (hx : In Q x) => hn0 m x hml (HBt.out _ (HQT.out x hx))
        have e3 := fun x (hx : In Q x) => hn2 m x hml (HBt.out _ (HQT.out x hx))
        have HIo := Lib.hid (fun x (hx : In Q x) => idOf_any (rep pl k).refs _ _ (mv p.updates m).name x ((H6.out k hlt).refs.below (hTb _ (HQT.out x hx))))
        rw [HdI.out m hml] at HIo
        clear hn0 hn2
        generalize (mv p.updates m).name = nm at *
        generalize (mv p.updates m).new = nw at *
        go_upto_region 20 with fail
        clear u0
        refine wp_region_held (S := In Q) (by kernel_rfl) ?_
        change wpAnyH _ _ _ _ _ _ _ _ (World.drew _)
        have hC0 := hQ.drew _ hQ1
        generalize hx0 : wi.drew = x0 at hC0 ⊢
        clear hx0
        refine wpAnyH_take (i := 0) (v := .pointer (some ⟨D1, 1, none⟩)) rfl (by kernel_rfl) (by kernel_rfl) (by kernel_rfl) (fun _ _ _ h => h) (Or.inl ⟨by rfl, fun w hSw => ?_⟩) hC0 ?_
        ·go_simp
        simp only [Act.put, List.getElem_toArray, List.getElem_cons_zero, List.getElem_cons_succ, List.setIfInBounds_toArray, List.set_cons_zero, List.set_cons_succ]
        refine wpAnyH_take (i := 1) (v := .slice (fa k).ra (rep pl k).refs.length (fa k).rc) rfl (by kernel_rfl) (by kernel_rfl) (by kernel_rfl) (fun _ _ _ h => h) (Or.inl ⟨by rfl, fun w hSw => ?_⟩) hC0 ?_
        ·have yy := e1 _ hSw; go_simp
        simp only [Act.put, List.getElem_toArray, List.getElem_cons_zero, List.getElem_cons_succ, List.setIfInBounds_toArray, List.set_cons_zero, List.set_cons_succ]
        refine wpAnyH_take (i := 2) (v := .pointer (some ⟨w.heap.size + 1, 1, none⟩)) rfl (by kernel_rfl) (by kernel_rfl) (by kernel_rfl) (fun _ _ _ h => h) (Or.inl ⟨by rfl, fun w hSw => ?_⟩) hC0 ?_
        ·go_simp
        simp only [Act.put, List.getElem_toArray, List.getElem_cons_zero, List.getElem_cons_succ, List.setIfInBounds_toArray, List.set_cons_zero, List.set_cons_succ]
        refine wpAnyH_take (i := 3) (v := .slice (some ⟨bu, ou, none⟩) p.updates.length ucp) rfl (by kernel_rfl) (by kernel_rfl) (by kernel_rfl) (fun _ _ _ h => h) (Or.inl ⟨by rfl, fun w hSw => ?_⟩) hC0 ?_
        ·have yy := e0 _ hSw; go_simp
        simp only [Act.put, List.getElem_toArray, List.getElem_cons_zero, List.getElem_cons_succ, List.setIfInBounds_toArray, List.set_cons_zero, List.set_cons_succ]
        refine wpAnyH_take (i := 4) (v := .int .i64 (m : Int)) rfl (by kernel_rfl) (by kernel_rfl) (by kernel_rfl) (fun _ _ _ h => h) (Or.inl ⟨by rfl, fun w hSw => ?_⟩) hC0 ?_
        ·go_simp
        simp only [Act.put, List.getElem_toArray, List.getElem_cons_zero, List.getElem_cons_succ, List.setIfInBounds_toArray, List.set_cons_zero, List.set_cons_succ]
        refine wpAnyH_take (i := 5) (v := .pointer (some ⟨bu, ou + m * 3, none⟩)) rfl (by kernel_rfl) (by kernel_rfl) (by kernel_rfl) (fun _ _ _ h => h) (Or.inl ⟨by rfl, fun w hSw => ?_⟩) hC0 ?_
        ·go_simp
        simp only [Act.put, List.getElem_toArray, List.getElem_cons_zero, List.getElem_cons_succ, List.setIfInBounds_toArray, List.set_cons_zero, List.set_cons_succ]
        refine wpAnyH_take (i := 6) (v := .pointer (some ⟨bu, ou + m * 3, none⟩)) rfl (by kernel_rfl) (by kernel_rfl) (by kernel_rfl) (fun _ _ _ h => h) (Or.inl ⟨by rfl, fun w hSw => ?_⟩) hC0 ?_
        ·go_simp
        simp only [Act.put, List.getElem_toArray, List.getElem_cons_zero, List.getElem_cons_succ, List.setIfInBounds_toArray, List.set_cons_zero, List.set_cons_succ]
        refine wpAnyH_take (i := 7) (v := .string nm) rfl (by kernel_rfl) (by kernel_rfl) (by kernel_rfl) (fun _ _ _ h => h) (Or.inl ⟨by rfl, fun w hSw => ?_⟩) hC0 ?_
        ·have yy := e2 _ hSw; go_simp
        simp only [Act.put, List.getElem_toArray, List.getElem_cons_zero, List.getElem_cons_succ, List.setIfInBounds_toArray, List.set_cons_zero, List.set_cons_succ]
        refine wpAnyH_take (i := 9) (v := .pointer (some ⟨w.heap.size + 1, 1, none⟩)) rfl (by kernel_rfl) (by kernel_rfl) (by kernel_rfl) (fun _ _ _ h => h) (Or.inl ⟨by rfl, fun w hSw => ?_⟩) hC0 ?_
        ·go_simp
        simp only [Act.put, List.getElem_toArray, List.getElem_cons_zero, List.getElem_cons_succ, List.setIfInBounds_toArray, List.set_cons_zero, List.set_cons_succ]
        refine wpAnyH_take (i := 10) (v := .slice (some ⟨bu, ou, none⟩) p.updates.length ucp) rfl (by kernel_rfl) (by kernel_rfl) (by kernel_rfl) (fun _ _ _ h => h) (Or.inl ⟨by rfl, fun w hSw => ?_⟩) hC0 ?_
        ·have yy := e0 _ hSw; go_simp
        simp only [Act.put, List.getElem_toArray, List.getElem_cons_zero, List.getElem_cons_succ, List.setIfInBounds_toArray, List.set_cons_zero, List.set_cons_succ]
        refine wpAnyH_take (i := 11) (v := .int .i64 (m : Int)) rfl (by kernel_rfl) (by kernel_rfl) (by kernel_rfl) (fun _ _ _ h => h) (Or.inl ⟨by rfl, fun w hSw => ?_⟩) hC0 ?_
        ·go_simp
        simp only [Act.put, List.getElem_toArray, List.getElem_cons_zero, List.getElem_cons_succ, List.setIfInBounds_toArray, List.set_cons_zero, List.set_cons_succ]
        refine wpAnyH_take (i := 12) (v := .pointer (some ⟨bu, ou + m * 3, none⟩)) rfl (by kernel_rfl) (by kernel_rfl) (by kernel_rfl) (fun _ _ _ h => h) (Or.inl ⟨by rfl, fun w hSw => ?_⟩) hC0 ?_
        ·go_simp
        simp only [Act.put, List.getElem_toArray, List.getElem_cons_zero, List.getElem_cons_succ, List.setIfInBounds_toArray, List.set_cons_zero, List.set_cons_succ]
        refine wpAnyH_take (i := 13) (v := .pointer (some ⟨bu, ou + m * 3 + 2, none⟩)) rfl (by kernel_rfl) (by kernel_rfl) (by kernel_rfl) (fun _ _ _ h => h) (Or.inl ⟨by rfl, fun w hSw => ?_⟩) hC0 ?_
        ·go_simp
        simp only [Act.put, List.getElem_toArray, List.getElem_cons_zero, List.getElem_cons_succ, List.setIfInBounds_toArray, List.set_cons_zero, List.set_cons_succ]
        refine wpAnyH_take (i := 14) (v := .int .i64 nw) rfl (by kernel_rfl) (by kernel_rfl) (by kernel_rfl) (fun _ _ _ h => h) (Or.inl ⟨by rfl, fun w hSw => ?_⟩) hC0 ?_
        ·have yy := e3 _ hSw; go_simp
        simp only [Act.put, List.getElem_toArray, List.getElem_cons_zero, List.getElem_cons_succ, List.setIfInBounds_toArray, List.set_cons_zero, List.set_cons_succ]
        refine wpAnyH_all (rs := [8]) (by kernel_rfl) (by simp) (fun j hj => ?_)
        obtain rfl : j = 8 := by simpa using hj
        refine Or.inl ?_
        go_wp2_with fail
        refine (HIo.out _ hC0).mono ?_
        rintro e x ⟨rfl, rfl⟩
        go_simp
        refine wpAnyH_take (i := 15) (v := .bool false) rfl (by kernel_rfl) (by kernel_rfl) (by kernel_rfl) (fun _ _ _ h => h) (Or.inl ⟨by rfl, fun w hSw => ?_⟩) hC0 ?_
        ·go_simp
        simp only [Act.put, List.getElem_toArray, List.getElem_cons_zero, List.getElem_cons_succ, List.setIfInBounds_toArray, List.set_cons_zero, List.set_cons_succ]
        refine wpAnyH_done (by kernel_rfl) ?_ _
        have HEm := Lib.hid (show In T x0 ∧ x0.heap[D1]? = some (.cells #[.slice (fa k).sa (rep pl k).store.length (fa k).sc, .slice (fa k).ra (rep pl k).refs.length (fa k).rc, .int .i64 (rep pl k).gen, .int .i64 (rep pl k).phase, .slice (fa k).oa (rep pl k).pend.objects.length (fa k).oc, .slice (fa k).ua (rep pl k).pend.updates.length (fa k).uc, .bool (rep pl k).pend.force] 43 (0, 0)) from ⟨HQT.out _ hC0, blk_below HDm.out (hQb _ hC0)⟩)
        go_wp2_with fail
        go_roundw
        case rel => exact ⟨m + 1, by omega, by go_num, HEm.out.1, HEm.out.2⟩
        case measure => simp [intOf]; omega
   case neg =>
    obtain rfl : k = 3 := by omega
    have hbl := HS.out.blt
    have HMn := Lib.hid HS.out.many
    have HBs := Lib.hid HS.out.bst
    generalize hN : takN l p up late 3 = N at *
    have HN := Lib.hid hN
    clear hN
    go_wp2_with fail
    refine (HNw.out _ hTr).mono ?_
    rintro e t4 ⟨rfl, hb5⟩
    have hT5 := hTn _ _ hTr hb5
    clear hb5 aa
    have aa := tA _ hT5
    have Hsm := Lib.hid (HS.out.same _ hbl)
    generalize best pl = b at *
    have hb1 : ¬ (b : Int) < 0 := by omega
    have hb2 : (b : Int) < 3 := by omega
    have hb3 : (0 : Int) ≤ (b : Int) := by omega
    have hwm := wrap_in (n := 2 * (N : Int)) (by omega)
    go_upto_region 25 with fail
    obtain ⟨Q, hQ, hQ1, _⟩ := cls_plain t4
    have hQb := hQ.below
    have hQn := hQ.next
    have HQT := Lib.hid (fun x (hx : In Q x) => hTn _ _ hT5 (hQb _ hx))
    clear aa
    have d0 := fun x (hx : In Q x) => tc _ (HQT.out x hx)
    have d1 := fun x (hx : In Q x) => tA _ (HQT.out x hx)
    refine wp_region_held (S := In Q) (by kernel_rfl) ?_
    change wpAnyH _ _ _ _ _ _ _ _ (World.drew _)
    have hC0 := hQ.drew _ hQ1
    generalize hx0 : t4.drew = x0 at hC0 ⊢
    clear hx0
    cases hpd : pd
    case false =>
     subst hpd
     refine wpAnyH_take (i := 0) (v := .bool false) rfl (by kernel_rfl) (by kernel_rfl) (by kernel_rfl) (fun _ _ _ h => h) (Or.inl ⟨by rfl, fun w hSw => ?_⟩) hC0 ?_
     ·go_simp
     simp only [Act.put, List.getElem_toArray, List.getElem_cons_zero, List.getElem_cons_succ, List.setIfInBounds_toArray, List.set_cons_zero, List.set_cons_succ]
     refine wpAnyH_take (i := 1) (v := .bool true) rfl (by kernel_rfl) (by kernel_rfl) (by kernel_rfl) (fun _ _ _ h => h) (Or.inl ⟨by rfl, fun w hSw => ?_⟩) hC0 ?_
     ·go_simp
     simp only [Act.put, List.getElem_toArray, List.getElem_cons_zero, List.getElem_cons_succ, List.setIfInBounds_toArray, List.set_cons_zero, List.set_cons_succ]
     refine wpAnyH_take (i := 2) (v := .bool true) rfl (by kernel_rfl) (by kernel_rfl) (by kernel_rfl) (fun _ _ _ h => h) (Or.inl ⟨by rfl, fun w hSw => ?_⟩) hC0 ?_
     ·go_simp
     simp only [Act.put, List.getElem_toArray, List.getElem_cons_zero, List.getElem_cons_succ, List.setIfInBounds_toArray, List.set_cons_zero, List.set_cons_succ]
     refine wpAnyH_take (i := 3) (v := undef) rfl (by kernel_rfl) (by kernel_rfl) (by kernel_rfl) (fun _ _ _ h => h) (Or.inr ⟨by rfl, rfl⟩) hC0 ?_
     simp only [Act.put, List.getElem_toArray, List.getElem_cons_zero, List.getElem_cons_succ, List.setIfInBounds_toArray, List.set_cons_zero, List.set_cons_succ]
     refine wpAnyH_take (i := 4) (v := undef) rfl (by kernel_rfl) (by kernel_rfl) (by kernel_rfl) (fun _ _ _ h => h) (Or.inr ⟨by rfl, rfl⟩) hC0 ?_
     simp only [Act.put, List.getElem_toArray, List.getElem_cons_zero, List.getElem_cons_succ, List.setIfInBounds_toArray, List.set_cons_zero, List.set_cons_succ]
     refine wpAnyH_take (i := 5) (v := undef) rfl (by kernel_rfl) (by kernel_rfl) (by kernel_rfl) (fun _ _ _ h => h) (Or.inr ⟨by rfl, rfl⟩) hC0 ?_
     simp only [Act.put, List.getElem_toArray, List.getElem_cons_zero, List.getElem_cons_succ, List.setIfInBounds_toArray, List.set_cons_zero, List.set_cons_succ]
     refine wpAnyH_take (i := 6) (v := undef) rfl (by kernel_rfl) (by kernel_rfl) (by kernel_rfl) (fun _ _ _ h => h) (Or.inr ⟨by rfl, rfl⟩) hC0 ?_
     simp only [Act.put, List.getElem_toArray, List.getElem_cons_zero, List.getElem_cons_succ, List.setIfInBounds_toArray, List.set_cons_zero, List.set_cons_succ]
     refine wpAnyH_take (i := 7) (v := undef) rfl (by kernel_rfl) (by kernel_rfl) (by kernel_rfl) (fun _ _ _ h => h) (Or.inr ⟨by rfl, rfl⟩) hC0 ?_
     simp only [Act.put, List.getElem_toArray, List.getElem_cons_zero, List.getElem_cons_succ, List.setIfInBounds_toArray, List.set_cons_zero, List.set_cons_succ]
     refine wpAnyH_take (i := 8) (v := undef) rfl (by kernel_rfl) (by kernel_rfl) (by kernel_rfl) (fun _ _ _ h => h) (Or.inr ⟨by rfl, rfl⟩) hC0 ?_
     simp only [Act.put, List.getElem_toArray, List.getElem_cons_zero, List.getElem_cons_succ, List.setIfInBounds_toArray, List.set_cons_zero, List.set_cons_succ]
     refine wpAnyH_take (i := 9) (v := undef) rfl (by kernel_rfl) (by kernel_rfl) (by kernel_rfl) (fun _ _ _ h => h) (Or.inr ⟨by rfl, rfl⟩) hC0 ?_
     simp only [Act.put, List.getElem_toArray, List.getElem_cons_zero, List.getElem_cons_succ, List.setIfInBounds_toArray, List.set_cons_zero, List.set_cons_succ]
     refine wpAnyH_take (i := 10) (v := undef) rfl (by kernel_rfl) (by kernel_rfl) (by kernel_rfl) (fun _ _ _ h => h) (Or.inr ⟨by rfl, rfl⟩) hC0 ?_
     simp only [Act.put, List.getElem_toArray, List.getElem_cons_zero, List.getElem_cons_succ, List.setIfInBounds_toArray, List.set_cons_zero, List.set_cons_succ]
     refine wpAnyH_take (i := 11) (v := undef) rfl (by kernel_rfl) (by kernel_rfl) (by kernel_rfl) (fun _ _ _ h => h) (Or.inr ⟨by rfl, rfl⟩) hC0 ?_
     simp only [Act.put, List.getElem_toArray, List.getElem_cons_zero, List.getElem_cons_succ, List.setIfInBounds_toArray, List.set_cons_zero, List.set_cons_succ]
     refine wpAnyH_take (i := 12) (v := undef) rfl (by kernel_rfl) (by kernel_rfl) (by kernel_rfl) (fun _ _ _ h => h) (Or.inr ⟨by rfl, rfl⟩) hC0 ?_
     simp only [Act.put, List.getElem_toArray, List.getElem_cons_zero, List.getElem_cons_succ, List.setIfInBounds_toArray, List.set_cons_zero, List.set_cons_succ]
     refine wpAnyH_take (i := 13) (v := undef) rfl (by kernel_rfl) (by kernel_rfl) (by kernel_rfl) (fun _ _ _ h => h) (Or.inr ⟨by rfl, rfl⟩) hC0 ?_
     simp only [Act.put, List.getElem_toArray, List.getElem_cons_zero, List.getElem_cons_succ, List.setIfInBounds_toArray, List.set_cons_zero, List.set_cons_succ]
     refine wpAnyH_take (i := 14) (v := undef) rfl (by kernel_rfl) (by kernel_rfl) (by kernel_rfl) (fun _ _ _ h => h) (Or.inr ⟨by rfl, rfl⟩) hC0 ?_
     simp only [Act.put, List.getElem_toArray, List.getElem_cons_zero, List.getElem_cons_succ, List.setIfInBounds_toArray, List.set_cons_zero, List.set_cons_succ]
     refine wpAnyH_take (i := 15) (v := undef) rfl (by kernel_rfl) (by kernel_rfl) (by kernel_rfl) (fun _ _ _ h => h) (Or.inr ⟨by rfl, rfl⟩) hC0 ?_
     simp only [Act.put, List.getElem_toArray, List.getElem_cons_zero, List.getElem_cons_succ, List.setIfInBounds_toArray, List.set_cons_zero, List.set_cons_succ]
     refine wpAnyH_take (i := 16) (v := undef) rfl (by kernel_rfl) (by kernel_rfl) (by kernel_rfl) (fun _ _ _ h => h) (Or.inr ⟨by rfl, rfl⟩) hC0 ?_
     simp only [Act.put, List.getElem_toArray, List.getElem_cons_zero, List.getElem_cons_succ, List.setIfInBounds_toArray, List.set_cons_zero, List.set_cons_succ]
     refine wpAnyH_take (i := 17) (v := undef) rfl (by kernel_rfl) (by kernel_rfl) (by kernel_rfl) (fun _ _ _ h => h) (Or.inr ⟨by rfl, rfl⟩) hC0 ?_
     simp only [Act.put, List.getElem_toArray, List.getElem_cons_zero, List.getElem_cons_succ, List.setIfInBounds_toArray, List.set_cons_zero, List.set_cons_succ]
     refine wpAnyH_take (i := 18) (v := undef) rfl (by kernel_rfl) (by kernel_rfl) (by kernel_rfl) (fun _ _ _ h => h) (Or.inr ⟨by rfl, rfl⟩) hC0 ?_
     simp only [Act.put, List.getElem_toArray, List.getElem_cons_zero, List.getElem_cons_succ, List.setIfInBounds_toArray, List.set_cons_zero, List.set_cons_succ]
     refine wpAnyH_take (i := 19) (v := undef) rfl (by kernel_rfl) (by kernel_rfl) (by kernel_rfl) (fun _ _ _ h => h) (Or.inr ⟨by rfl, rfl⟩) hC0 ?_
     simp only [Act.put, List.getElem_toArray, List.getElem_cons_zero, List.getElem_cons_succ, List.setIfInBounds_toArray, List.set_cons_zero, List.set_cons_succ]
     refine wpAnyH_take (i := 20) (v := undef) rfl (by kernel_rfl) (by kernel_rfl) (by kernel_rfl) (fun _ _ _ h => h) (Or.inr ⟨by rfl, rfl⟩) hC0 ?_
     simp only [Act.put, List.getElem_toArray, List.getElem_cons_zero, List.getElem_cons_succ, List.setIfInBounds_toArray, List.set_cons_zero, List.set_cons_succ]
     refine wpAnyH_take (i := 21) (v := undef) rfl (by kernel_rfl) (by kernel_rfl) (by kernel_rfl) (fun _ _ _ h => h) (Or.inr ⟨by rfl, rfl⟩) hC0 ?_
     simp only [Act.put, List.getElem_toArray, List.getElem_cons_zero, List.getElem_cons_succ, List.setIfInBounds_toArray, List.set_cons_zero, List.set_cons_succ]
     refine wpAnyH_take (i := 22) (v := undef) rfl (by kernel_rfl) (by kernel_rfl) (by kernel_rfl) (fun _ _ _ h => h) (Or.inr ⟨by rfl, rfl⟩) hC0 ?_
     simp only [Act.put, List.getElem_toArray, List.getElem_cons_zero, List.getElem_cons_succ, List.setIfInBounds_toArray, List.set_cons_zero, List.set_cons_succ]
     refine wpAnyH_take (i := 23) (v := .bool true) rfl (by kernel_rfl) (by kernel_rfl) (by kernel_rfl) (fun _ _ _ h => h) (Or.inl ⟨by rfl, fun w hSw => ?_⟩) hC0 ?_
     ·go_simp
     simp only [Act.put, List.getElem_toArray, List.getElem_cons_zero, List.getElem_cons_succ, List.setIfInBounds_toArray, List.set_cons_zero, List.set_cons_succ]
     refine wpAnyH_take (i := 24) (v := .bool true) rfl (by kernel_rfl) (by kernel_rfl) (by kernel_rfl) (fun _ _ _ h => h) (Or.inl ⟨by rfl, fun w hSw => ?_⟩) hC0 ?_
     ·go_simp
     simp only [Act.put, List.getElem_toArray, List.getElem_cons_zero, List.getElem_cons_succ, List.setIfInBounds_toArray, List.set_cons_zero, List.set_cons_succ]
     refine wpAnyH_done (by kernel_rfl) ?_ _
     have HE := Lib.hid (HBt.out _ (HQT.out _ hC0))
     go_wp2_with fail
     go_ret
     exact ⟨rfl, HE.out⟩
    case true =>
     subst hpd
     have hm2 := HMn.out rfl
     have Hsf := Lib.hid (show sameRep (rep pl b) (rep l b) = false by rw [Hsm.out, HBs.out rfl]; rfl)
     have hgt : (3 : Int) < 2 * (N : Int) := by omega
     have e0 := fun x (hx : In Q x) => Ha.out.1 b x hbl (hTb _ (HQT.out x hx))
     have g0 := fun x (hx : In Q x) => Hk.out.1 b x hbl (HBt.out _ (HQT.out x hx))
     have e1 := fun x (hx : In Q x) => Ha.out.2.1 b x hbl (hTb _ (HQT.out x hx))
     have g1 := fun x (hx : In Q x) => Hk.out.2.1 b x hbl (HBt.out _ (HQT.out x hx))
     have e2 := fun x (hx : In Q x) => Ha.out.2.2.1 b x hbl (hTb _ (HQT.out x hx))
     have g2 := fun x (hx : In Q x) => Hk.out.2.2.1 b x hbl (HBt.out _ (HQT.out x hx))
     have e3 := fun x (hx : In Q x) => Ha.out.2.2.2.1 b x hbl (hTb _ (HQT.out x hx))
     have g3 := fun x (hx : In Q x) => Hk.out.2.2.2.1 b x hbl (HBt.out _ (HQT.out x hx))
     have e4 := fun x (hx : In Q x) => Ha.out.2.2.2.2.1 b x hbl (hTb _ (HQT.out x hx))
     have g4 := fun x (hx : In Q x) => Hk.out.2.2.2.2.1 b x hbl (HBt.out _ (HQT.out x hx))
     have e5 := fun x (hx : In Q x) => Ha.out.2.2.2.2.2.1 b x hbl (hTb _ (HQT.out x hx))
     have g5 := fun x (hx : In Q x) => Hk.out.2.2.2.2.2.1 b x hbl (HBt.out _ (HQT.out x hx))
     have e6 := fun x (hx : In Q x) => Ha.out.2.2.2.2.2.2 b x hbl (hTb _ (HQT.out x hx))
     have g6 := fun x (hx : In Q x) => Hk.out.2.2.2.2.2.2 b x hbl (HBt.out _ (HQT.out x hx))
     have HSr := Lib.hid (fun x (hx : In Q x) => sameReplica_any (rep pl b) (rep l b) _ _ _ _ _ _ _ _ _ _ x ((H6.out b hbl).below (hTb _ (HQT.out x hx))) ((H5.out b hbl).below (HBt.out _ (HQT.out x hx))))
     simp only [repV] at HSr
     rw [Hsf.out] at HSr
     refine wpAnyH_take (i := 0) (v := .bool true) rfl (by kernel_rfl) (by kernel_rfl) (by kernel_rfl) (fun _ _ _ h => h) (Or.inl ⟨by rfl, fun w hSw => ?_⟩) hC0 ?_
     ·go_simp
     simp only [Act.put, List.getElem_toArray, List.getElem_cons_zero, List.getElem_cons_succ, List.setIfInBounds_toArray, List.set_cons_zero, List.set_cons_succ]
     refine wpAnyH_take (i := 1) (v := .bool false) rfl (by kernel_rfl) (by kernel_rfl) (by kernel_rfl) (fun _ _ _ h => h) (Or.inl ⟨by rfl, fun w hSw => ?_⟩) hC0 ?_
     ·go_simp
     simp only [Act.put, List.getElem_toArray, List.getElem_cons_zero, List.getElem_cons_succ, List.setIfInBounds_toArray, List.set_cons_zero, List.set_cons_succ]
     refine wpAnyH_take (i := 2) (v := .bool false) rfl (by kernel_rfl) (by kernel_rfl) (by kernel_rfl) (fun _ _ _ h => h) (Or.inl ⟨by rfl, fun w hSw => ?_⟩) hC0 ?_
     ·go_simp
     simp only [Act.put, List.getElem_toArray, List.getElem_cons_zero, List.getElem_cons_succ, List.setIfInBounds_toArray, List.set_cons_zero, List.set_cons_succ]
     refine wpAnyH_take (i := 3) (v := .int .i64 (N : Int)) rfl (by kernel_rfl) (by kernel_rfl) (by kernel_rfl) (fun _ _ _ h => h) (Or.inl ⟨by rfl, fun w hSw => ?_⟩) hC0 ?_
     ·go_simp
     simp only [Act.put, List.getElem_toArray, List.getElem_cons_zero, List.getElem_cons_succ, List.setIfInBounds_toArray, List.set_cons_zero, List.set_cons_succ]
     refine wpAnyH_take (i := 4) (v := .int .i64 (2 * (N : Int))) rfl (by kernel_rfl) (by kernel_rfl) (by kernel_rfl) (fun _ _ _ h => h) (Or.inl ⟨by rfl, fun w hSw => ?_⟩) hC0 ?_
     ·go_simp
     simp only [Act.put, List.getElem_toArray, List.getElem_cons_zero, List.getElem_cons_succ, List.setIfInBounds_toArray, List.set_cons_zero, List.set_cons_succ]
     refine wpAnyH_take (i := 5) (v := .pointer (some ⟨DA, 0, none⟩)) rfl (by kernel_rfl) (by kernel_rfl) (by kernel_rfl) (fun _ _ _ h => h) (Or.inl ⟨by rfl, fun w hSw => ?_⟩) hC0 ?_
     ·go_simp
     simp only [Act.put, List.getElem_toArray, List.getElem_cons_zero, List.getElem_cons_succ, List.setIfInBounds_toArray, List.set_cons_zero, List.set_cons_succ]
     refine wpAnyH_take (i := 6) (v := .slice (some ⟨b1, off1, none⟩) 3 c1) rfl (by kernel_rfl) (by kernel_rfl) (by kernel_rfl) (fun _ _ _ h => h) (Or.inl ⟨by rfl, fun w hSw => ?_⟩) hC0 ?_
     ·have yy := d1 _ hSw; go_simp
     simp only [Act.put, List.getElem_toArray, List.getElem_cons_zero, List.getElem_cons_succ, List.setIfInBounds_toArray, List.set_cons_zero, List.set_cons_succ]
     refine wpAnyH_take (i := 7) (v := .int .i64 3) rfl (by kernel_rfl) (by kernel_rfl) (by kernel_rfl) (fun _ _ _ h => h) (Or.inl ⟨by rfl, fun w hSw => ?_⟩) hC0 ?_
     ·go_simp
     simp only [Act.put, List.getElem_toArray, List.getElem_cons_zero, List.getElem_cons_succ, List.setIfInBounds_toArray, List.set_cons_zero, List.set_cons_succ]
     refine wpAnyH_take (i := 8) (v := .bool true) rfl (by kernel_rfl) (by kernel_rfl) (by kernel_rfl) (fun _ _ _ h => h) (Or.inl ⟨by rfl, fun w hSw => ?_⟩) hC0 ?_
     ·go_simp
     simp only [Act.put, List.getElem_toArray, List.getElem_cons_zero, List.getElem_cons_succ, List.setIfInBounds_toArray, List.set_cons_zero, List.set_cons_succ]
     refine wpAnyH_take (i := 9) (v := .bool true) rfl (by kernel_rfl) (by kernel_rfl) (by kernel_rfl) (fun _ _ _ h => h) (Or.inl ⟨by rfl, fun w hSw => ?_⟩) hC0 ?_
     ·go_simp
     simp only [Act.put, List.getElem_toArray, List.getElem_cons_zero, List.getElem_cons_succ, List.setIfInBounds_toArray, List.set_cons_zero, List.set_cons_succ]
     refine wpAnyH_take (i := 10) (v := .pointer (some ⟨DA, 0, none⟩)) rfl (by kernel_rfl) (by kernel_rfl) (by kernel_rfl) (fun _ _ _ h => h) (Or.inl ⟨by rfl, fun w hSw => ?_⟩) hC0 ?_
     ·go_simp
     simp only [Act.put, List.getElem_toArray, List.getElem_cons_zero, List.getElem_cons_succ, List.setIfInBounds_toArray, List.set_cons_zero, List.set_cons_succ]
     refine wpAnyH_take (i := 11) (v := .slice (some ⟨b1, off1, none⟩) 3 c1) rfl (by kernel_rfl) (by kernel_rfl) (by kernel_rfl) (fun _ _ _ h => h) (Or.inl ⟨by rfl, fun w hSw => ?_⟩) hC0 ?_
     ·have yy := d1 _ hSw; go_simp
     simp only [Act.put, List.getElem_toArray, List.getElem_cons_zero, List.getElem_cons_succ, List.setIfInBounds_toArray, List.set_cons_zero, List.set_cons_succ]
     refine wpAnyH_take (i := 12) (v := .int .i64 (b : Int)) rfl (by kernel_rfl) (by kernel_rfl) (by kernel_rfl) (fun _ _ _ h => h) (Or.inl ⟨by rfl, fun w hSw => ?_⟩) hC0 ?_
     ·go_simp
     simp only [Act.put, List.getElem_toArray, List.getElem_cons_zero, List.getElem_cons_succ, List.setIfInBounds_toArray, List.set_cons_zero, List.set_cons_succ]
     refine wpAnyH_take (i := 13) (v := .pointer (some ⟨b1, off1 + b * 7, none⟩)) rfl (by kernel_rfl) (by kernel_rfl) (by kernel_rfl) (fun _ _ _ h => h) (Or.inl ⟨by rfl, fun w hSw => ?_⟩) hC0 ?_
     ·go_simp
     simp only [Act.put, List.getElem_toArray, List.getElem_cons_zero, List.getElem_cons_succ, List.setIfInBounds_toArray, List.set_cons_zero, List.set_cons_succ]
     refine wpAnyH_take (i := 14) (v := .agg #[.slice (fa b).sa (rep pl b).store.length (fa b).sc, .slice (fa b).ra (rep pl b).refs.length (fa b).rc, .int .i64 (rep pl b).gen, .int .i64 (rep pl b).phase, .slice (fa b).oa (rep pl b).pend.objects.length (fa b).oc, .slice (fa b).ua (rep pl b).pend.updates.length (fa b).uc, .bool (rep pl b).pend.force]) rfl (by kernel_rfl) (by kernel_rfl) (by kernel_rfl) (fun _ _ _ h => h) (Or.inl ⟨by rfl, fun w hSw => ?_⟩) hC0 ?_
     ·have y0 := e0 _ hSw; have y1 := e1 _ hSw; have y2 := e2 _ hSw; have y3 := e3 _ hSw; have y4 := e4 _ hSw; have y5 := e5 _ hSw; have y6 := e6 _ hSw; go_simp
     simp only [Act.put, List.getElem_toArray, List.getElem_cons_zero, List.getElem_cons_succ, List.setIfInBounds_toArray, List.set_cons_zero, List.set_cons_succ]
     refine wpAnyH_take (i := 15) (v := .pointer (some ⟨w.heap.size, 0, none⟩)) rfl (by kernel_rfl) (by kernel_rfl) (by kernel_rfl) (fun _ _ _ h => h) (Or.inl ⟨by rfl, fun w hSw => ?_⟩) hC0 ?_
     ·go_simp
     simp only [Act.put, List.getElem_toArray, List.getElem_cons_zero, List.getElem_cons_succ, List.setIfInBounds_toArray, List.set_cons_zero, List.set_cons_succ]
     refine wpAnyH_take (i := 16) (v := .slice (some ⟨b0, off0, none⟩) 3 cap) rfl (by kernel_rfl) (by kernel_rfl) (by kernel_rfl) (fun _ _ _ h => h) (Or.inl ⟨by rfl, fun w hSw => ?_⟩) hC0 ?_
     ·have yy := d0 _ hSw; go_simp
     simp only [Act.put, List.getElem_toArray, List.getElem_cons_zero, List.getElem_cons_succ, List.setIfInBounds_toArray, List.set_cons_zero, List.set_cons_succ]
     refine wpAnyH_take (i := 17) (v := .int .i64 (b : Int)) rfl (by kernel_rfl) (by kernel_rfl) (by kernel_rfl) (fun _ _ _ h => h) (Or.inl ⟨by rfl, fun w hSw => ?_⟩) hC0 ?_
     ·go_simp
     simp only [Act.put, List.getElem_toArray, List.getElem_cons_zero, List.getElem_cons_succ, List.setIfInBounds_toArray, List.set_cons_zero, List.set_cons_succ]
     refine wpAnyH_take (i := 18) (v := .pointer (some ⟨b0, off0 + b * 7, none⟩)) rfl (by kernel_rfl) (by kernel_rfl) (by kernel_rfl) (fun _ _ _ h => h) (Or.inl ⟨by rfl, fun w hSw => ?_⟩) hC0 ?_
     ·go_simp
     simp only [Act.put, List.getElem_toArray, List.getElem_cons_zero, List.getElem_cons_succ, List.setIfInBounds_toArray, List.set_cons_zero, List.set_cons_succ]
     refine wpAnyH_take (i := 19) (v := .agg #[.slice (fr b).sa (rep l b).store.length (fr b).sc, .slice (fr b).ra (rep l b).refs.length (fr b).rc, .int .i64 (rep l b).gen, .int .i64 (rep l b).phase, .slice (fr b).oa (rep l b).pend.objects.length (fr b).oc, .slice (fr b).ua (rep l b).pend.updates.length (fr b).uc, .bool (rep l b).pend.force]) rfl (by kernel_rfl) (by kernel_rfl) (by kernel_rfl) (fun _ _ _ h => h) (Or.inl ⟨by rfl, fun w hSw => ?_⟩) hC0 ?_
     ·have y0 := g0 _ hSw; have y1 := g1 _ hSw; have y2 := g2 _ hSw; have y3 := g3 _ hSw; have y4 := g4 _ hSw; have y5 := g5 _ hSw; have y6 := g6 _ hSw; go_simp
     simp only [Act.put, List.getElem_toArray, List.getElem_cons_zero, List.getElem_cons_succ, List.setIfInBounds_toArray, List.set_cons_zero, List.set_cons_succ]
     refine wpAnyH_all (rs := [20]) (by kernel_rfl) (by simp) (fun j hj => ?_)
     obtain rfl : j = 20 := by simpa using hj
     refine Or.inl ?_
     go_wp2_with fail
     refine (HSr.out _ hC0).mono ?_
     rintro e x1 ⟨rfl, hb0⟩
     have hC1 := hQn _ _ hC0 hb0
     clear hb0
     go_simp
     refine wpAnyH_take (i := 21) (v := .bool true) rfl (by kernel_rfl) (by kernel_rfl) (by kernel_rfl) (fun _ _ _ h => h) (Or.inl ⟨by rfl, fun w hSw => ?_⟩) hC1 ?_
     ·go_simp
     simp only [Act.put, List.getElem_toArray, List.getElem_cons_zero, List.getElem_cons_succ, List.setIfInBounds_toArray, List.set_cons_zero, List.set_cons_succ]
     refine wpAnyH_take (i := 22) (v := .bool true) rfl (by kernel_rfl) (by kernel_rfl) (by kernel_rfl) (fun _ _ _ h => h) (Or.inl ⟨by rfl, fun w hSw => ?_⟩) hC1 ?_
     ·go_simp
     simp only [Act.put, List.getElem_toArray, List.getElem_cons_zero, List.getElem_cons_succ, List.setIfInBounds_toArray, List.set_cons_zero, List.set_cons_succ]
     refine wpAnyH_take (i := 23) (v := .bool true) rfl (by kernel_rfl) (by kernel_rfl) (by kernel_rfl) (fun _ _ _ h => h) (Or.inl ⟨by rfl, fun w hSw => ?_⟩) hC1 ?_
     ·go_simp
     simp only [Act.put, List.getElem_toArray, List.getElem_cons_zero, List.getElem_cons_succ, List.setIfInBounds_toArray, List.set_cons_zero, List.set_cons_succ]
     refine wpAnyH_take (i := 24) (v := .bool true) rfl (by kernel_rfl) (by kernel_rfl) (by kernel_rfl) (fun _ _ _ h => h) (Or.inl ⟨by rfl, fun w hSw => ?_⟩) hC1 ?_
     ·go_simp
     simp only [Act.put, List.getElem_toArray, List.getElem_cons_zero, List.getElem_cons_succ, List.setIfInBounds_toArray, List.set_cons_zero, List.set_cons_succ]
     refine wpAnyH_done (by kernel_rfl) ?_ _
     have HE := Lib.hid (HBt.out _ (HQT.out _ hC1))
     go_wp2_with fail
     go_ret
     exact ⟨rfl, HE.out⟩
end Go.Proofs.YtgkbalhkjolnmaaGreatDoor
