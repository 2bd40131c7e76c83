
/- Walks: the law ClusterTells. -/
import Derived.Test.YtgkbalhkjolnmaaGreatDoorK28
import Derived.Test.YtgkbalhkjolnmaaGreatDoorK29
namespace Go.Proofs.YtgkbalhkjolnmaaGreatDoor
open Go.RowKit
set_option linter.unusedVariables false
set_option linter.unusedSimpArgs false
theorem mk3_reps (w : World) : RepsV (fun _ => True) (w.alloc (.cells #[.slice none 0 0, .slice none 0 0, .int .i64 0, .int .i64 0, .slice none 0 0, .slice none 0 0, .bool false, .slice none 0 0, .slice none 0 0, .int .i64 0, .int .i64 0, .slice none 0 0, .slice none 0 0, .bool false, .slice none 0 0, .slice none 0 0, .int .i64 0, .int .i64 0, .slice none 0 0, .slice none 0 0, .bool false] 43)) (.slice (some ⟨w.heap.size, 0, none⟩) 3 3) [rep0, rep0, rep0] := by
 have HZ := heap_alloc_new w (.cells #[.slice none 0 0, .slice none 0 0, .int .i64 0, .int .i64 0, .slice none 0 0, .slice none 0 0, .bool false, .slice none 0 0, .slice none 0 0, .int .i64 0, .int .i64 0, .slice none 0 0, .slice none 0 0, .bool false, .slice none 0 0, .slice none 0 0, .int .i64 0, .int .i64 0, .slice none 0 0, .slice none 0 0, .bool false] 43)
 have hz : ∀ i, i < 3 → rep [rep0, rep0, rep0] i = rep0 := fun i hi => by
  have : i = 0 ∨ i = 1 ∨ i = 2 := by omega
  rcases this with rfl | rfl | rfl <;> rfl
 refine ⟨fun _ => ⟨.slice none 0 0, .slice none 0 0, .slice none 0 0, .slice none 0 0⟩, ⟨_, 3, rfl, by decide, by decide, by decide, fun _ => ⟨_, 0, rfl, trivial, fun i hi j u hu => ?_⟩⟩, fun i hi => ?_⟩
 ·replace hu : (repC (rep [rep0, rep0, rep0] i) ⟨.slice none 0 0, .slice none 0 0, .slice none 0 0, .slice none 0 0⟩)[j]? = some u := hu
  rw [hz i hi] at hu
  have hj : j < 7 := by
   rcases Nat.lt_or_ge j 7 with h | h
   ·exact h
   ·rw [List.getElem?_eq_none (by simpa [repC] using h)] at hu; cases hu
  have h1 : i = 0 ∨ i = 1 ∨ i = 2 := by have : i < 3 := hi; omega
  have h2 : j = 0 ∨ j = 1 ∨ j = 2 ∨ j = 3 ∨ j = 4 ∨ j = 5 ∨ j = 6 := by omega
  rcases h1 with rfl | rfl | rfl <;> rcases h2 with rfl | rfl | rfl | rfl | rfl | rfl | rfl <;> (cases hu; exact block_cell HZ rfl)
 ·rw [hz i hi]; exact rep0_is _ _
set_option maxRecDepth 100000 in
set_option maxHeartbeats 32000000 in
theorem clusterTells_any (l : List Rep) (p : Psh) (up late : Int) (cv ov uv : Value) (S S1 : Nat → Prop) (w : World) (h : RepsV S w cv l) (hp : StoreV S1 w ov p.objects ∧ MvsV S1 w uv p.updates) (hup : I64 up) (hlt : I64 late) (ht : Tab w) :
  Calls Tryz.prog 3 #[.agg #[cv], pshV p ov uv, .int .i64 up, .int .i64 late] w fun e w' => e = .returned (.bool true) ∧ Below w.heap.size w w' := by
 have H := Lib.hid h.low
 have HP := Lib.hid (show StoreV (fun b => b < w.heap.size) w ov p.objects ∧ MvsV (fun b => b < w.heap.size) w uv p.updates from ⟨hp.1.lt.weaken fun _ hb => hb.2, hp.2.lt.weaken fun _ hb => hb.2⟩)
 have HTw := Lib.hid ht
 obtain ⟨ho, hu⟩ := hp
 obtain ⟨oap, ocp, rfl⟩ := ho.vshape
 obtain ⟨⟨uap, ucp⟩, rfl⟩ := hu.shape
 obtain ⟨a, cap, rfl⟩ := h.vshape
 obtain ⟨R, hR, hR1, HB0⟩ := cls_allocs w [.cells #[.slice a l.length cap] 24, .cells #[.slice oap p.objects.length ocp, .slice uap p.updates.length ucp, .bool p.force] 28]
 simp only [List.foldl] at hR1
 have hRb := hR.below
 have hRn := hR.next
 have c0 := fun x (hx : In R x) => block_cell (j := 0) (HB0 x hx 0 _ rfl) rfl
 have p0 := fun x (hx : In R x) => block_cell (j := 0) (HB0 x hx 1 _ rfl) rfl
 have p1 := fun x (hx : In R x) => block_cell (j := 1) (HB0 x hx 1 _ rfl) rfl
 have p2 := fun x (hx : In R x) => block_cell (j := 2) (HB0 x hx 1 _ rfl) rfl
 simp only [Nat.add_zero] at c0
 clear HB0
 have HPu := Lib.hid (fun x (hx : In R x) => cluPush_any l p up late _ _ _ _ _ x (H.out.below (hRb _ hx)) ⟨HP.out.1.below (hRb _ hx), HP.out.2.below (hRb _ hx)⟩ (HTw.out.below (hRb _ hx)))
 simp only [pshV] at HPu
 have HNw := Lib.hid (fun x (hx : In R x) => newest_any l _ _ x (H.out.below (hRb _ hx)))
 have HCc := Lib.hid (fun x (hx : In R x) => checkCluster_any l _ _ x (H.out.below (hRb _ hx)))
 have HCk := Lib.hid (fun x (hx : In R x) => cluCheck_any l _ _ x (H.out.below (hRb _ hx)))
 have HBe := Lib.hid (fun x (hx : In R x) => bestOf_any l _ _ x (H.out.below (hRb _ hx)))
 have HPo := Lib.hid (fun x (hx : In R x) (hc : RightC l) => pushOf_any l p up late _ _ _ _ _ x (H.out.below (hRb _ hx)) hc ⟨HP.out.1.below (hRb _ hx), HP.out.2.below (hRb _ hx)⟩)
 simp only [pshV] at HPo
 have Hnw := Lib.hid (show newN l = if cluE l = 0 then (best l : Int) else 0 from rfl)
 have cc := c0 _ hR1
 have r0 := p0 _ hR1
 have r1 := p1 _ hR1
 have r2 := p2 _ hR1
 have hmk : ∀ w, (Instr.makeSlice 22 (.int .i64 3) (.int .i64 3)).run Tryz.prog w = .ok (.slice (some ⟨w.heap.size, 0, none⟩) 3 3) (w.alloc (.cells #[.slice none 0 0, .slice none 0 0, .int .i64 0, .int .i64 0, .slice none 0 0, .slice none 0 0, .bool false, .slice none 0 0, .slice none 0 0, .int .i64 0, .int .i64 0, .slice none 0 0, .slice none 0 0, .bool false, .slice none 0 0, .slice none 0 0, .int .i64 0, .int .i64 0, .slice none 0 0, .slice none 0 0, .bool false] 43)) := fun _ => by kernel_rfl
 clear h ho hu ht hup hlt
 simp only [pshV]
 by_cases hz : cluE l = 0
 case neg =>
  have e1 : pushCE l p up late = cluE l := by unfold pushCE; rw [if_pos hz]
  have e2 : pushCL l p up late = [] := by unfold pushCL; rw [if_neg hz]
  have e3 : pushCD l p up late = false := by unfold pushCD; rw [if_neg hz]
  rw [e1, e2, e3] at HPu
  rw [if_neg hz] at Hnw
  rw [Hnw.out] at HNw
  obtain ⟨pl, hpl⟩ : ∃ pl : List Rep, pl = [] := ⟨_, rfl⟩
  rw [← hpl] at HPu
  have HIs := Lib.hid (show cluIsB pl (cluE l) (cluE l) [] = true by unfold cluIsB; rw [if_neg hz, hpl, (sameClu_iff _ _).2 rfl]; simp)
  have Hlp := Lib.hid (show pl.length * 120 ≤ 140737488351232 by rw [hpl]; decide)
  have q1 : (cluE l == 0) = false := by simpa using hz
  clear e1 e2 e3 hz hpl Hnw HPo HBe
  generalize cluE l = ce at *
  go_enter Tryz.func3, Tryz.ntmps3
  go_wp2_with fail
  refine (HPu.out _ hR1).mono ?_
  rintro e w1 ⟨v1, rfl, ⟨F1, hO1, hF1⟩, hb1⟩
  obtain ⟨a1, c1, rfl⟩ := hO1.shape
  have hR2 := hRn _ _ hR1 hb1
  clear cc r0 r1 r2
  have Hv1 := Lib.hid (hO1.any Hlp.out).low
  have hbA : Below w1.heap.size w1 (w1.alloc (.cells #[.slice a1 pl.length c1] 24)) := (Below.refl _ _).alloc (Nat.le_refl _) _
  have hRA := hR.alloc _ (.cells #[.slice a1 pl.length c1] 24) hR2
  have HA := Lib.hid (heap_alloc_new w1 (.cells #[.slice a1 pl.length c1] 24))
  have HvA := Lib.hid (Hv1.out.below hbA)
  clear hO1 hF1 hb1 hbA Hv1
  have cc := c0 _ hRA
  go_wp2_with fail
  refine (HNw.out _ hRA).mono ?_
  rintro e w2 ⟨rfl, hb2⟩
  have hR3 := hRn _ _ hRA hb2
  clear cc
  have HA2 := Lib.hid (blk_below HA.out hb2)
  have HvA2 := Lib.hid (HvA.out.below hb2)
  clear HA HvA hb2
  generalize w1.heap.size = DA at *
  have cc := c0 _ hR3
  go_wp2_with fail
  refine (HCc.out _ hR3).mono ?_
  rintro e w3 ⟨rfl, hb3⟩
  have hR4 := hRn _ _ hR3 hb3
  clear cc
  have HA3 := Lib.hid (blk_below HA2.out hb3)
  have HvA3 := Lib.hid (HvA2.out.below hb3)
  clear HA2 HvA2 hb3
  have hR5 := hR.alloc _ (.cells #[.slice none 0 0] 24) hR4
  have hb5 : Below w3.heap.size w3 (w3.alloc (.cells #[.slice none 0 0] 24)) := (Below.refl _ _).alloc (Nat.le_refl _) _
  have HA4 := Lib.hid (blk_below HA3.out hb5)
  have HvT := Lib.hid (HvA3.out.below hb5)
  have HW4 := Lib.hid (heap_alloc_new w3 (.cells #[.slice none 0 0] 24))
  clear hb5
  go_upto_region 11 with fail
  generalize w3.heap.size = DW at *
  generalize w3.alloc (.cells #[.slice none 0 0] 24) = t0 at *
  clear q1
  obtain ⟨T, hT, hT1, _⟩ := cls_plain t0
  have hTb := hT.below
  have hTn := hT.next
  have hTR : ∀ x, In T x → In R x := fun x hx => hRn _ _ hR5 (hTb _ hx)
  have tc := fun x (hx : In T x) => c0 x (hTR _ hx)
  have tA := fun x (hx : In T x) => below_cell (hTb _ hx) (block_cell (j := 0) HA4.out rfl)
  have tW := fun x (hx : In T x) => below_cell (hTb _ hx) (block_cell (j := 0) HW4.out rfl)
  have HBt := Lib.hid (fun x (hx : In T x) => hRb _ (hTR _ hx))
  have HwT := Lib.hid (RepsV.nil (fun _ => True) t0 0 none (by omega))
  refine wp_region_held (S := In T) (by kernel_rfl) ?_
  change wpAnyH _ _ _ _ _ _ _ _ (World.drew _)
  have hC0 := hT.drew _ hT1
  generalize hx0 : t0.drew = x0 at hC0 ⊢
  clear hx0
  refine wpAnyH_all (rs := [0]) (by kernel_rfl) (by simp) (fun j hj => ?_)
  obtain rfl : j = 0 := by simpa using hj
  refine Or.inl ?_
  go_wp2_with fail
  refine (clusterBegun_any x0 (HTw.out.below (HBt.out _ hC0))).mono ?_
  rintro e x20 ⟨rfl, hb0⟩
  have hC1 := hTn _ _ hC0 hb0
  clear hb0
  generalize x20 = x1 at *
  go_simp
  refine wpAnyH_take (i := 1) (v := .bool true) rfl (by kernel_rfl) (by kernel_rfl) (by kernel_rfl) (fun _ _ _ h => h) (Or.inl ⟨by rfl, fun w hSw => ?_⟩) hC1 ?_
  ·go_simp
  simp only [Act.put, List.getElem_toArray, List.getElem_cons_zero, List.getElem_cons_succ, List.setIfInBounds_toArray, List.set_cons_zero, List.set_cons_succ]
  refine wpAnyH_all (rs := [2, 3]) (by kernel_rfl) (by simp) (fun j hj => ?_)
  rcases List.mem_cons.1 hj with rfl | hj
  ·skip
   refine Or.inl ?_
   go_wp2_with fail
   refine (cluNew_any _).mono ?_
   rintro e x21 ⟨v7, rfl, hv7, hb0⟩
   obtain ⟨a7, c7, hs7⟩ := hv7.vshape
   replace hs7 : v7 = .slice a7 3 c7 := hs7
   subst hs7
   have hC2 := hTn _ _ hC1 hb0
   have Hv7 := Lib.hid hv7
   clear hv7 hb0
   generalize x21 = x2 at *
   go_simp
   refine wpAnyH_all (rs := [3]) (by kernel_rfl) (by simp) (fun j hj => ?_)
   obtain rfl : j = 3 := by simpa using hj
   refine Or.inl ?_
   have hC3 := hT.alloc _ (.cells #[.slice none 0 0, .slice none 0 0, .int .i64 0, .int .i64 0, .slice none 0 0, .slice none 0 0, .bool false, .slice none 0 0, .slice none 0 0, .int .i64 0, .int .i64 0, .slice none 0 0, .slice none 0 0, .bool false, .slice none 0 0, .slice none 0 0, .int .i64 0, .int .i64 0, .slice none 0 0, .slice none 0 0, .bool false] 43) hC2
   have Hv8 := Lib.hid (mk3_reps x2)
   have hb0 : Below x2.heap.size x2 (x2.alloc (.cells #[.slice none 0 0, .slice none 0 0, .int .i64 0, .int .i64 0, .slice none 0 0, .slice none 0 0, .bool false, .slice none 0 0, .slice none 0 0, .int .i64 0, .int .i64 0, .slice none 0 0, .slice none 0 0, .bool false, .slice none 0 0, .slice none 0 0, .int .i64 0, .int .i64 0, .slice none 0 0, .slice none 0 0, .bool false] 43)) := (Below.refl _ _).alloc (Nat.le_refl _) _
   replace Hv7 := Lib.hid (Hv7.out.below hb0)
   go_wp2_with fail
   clear hb0
   generalize x2.heap.size = D8 at *
   generalize x2.alloc (.cells #[.slice none 0 0, .slice none 0 0, .int .i64 0, .int .i64 0, .slice none 0 0, .slice none 0 0, .bool false, .slice none 0 0, .slice none 0 0, .int .i64 0, .int .i64 0, .slice none 0 0, .slice none 0 0, .bool false, .slice none 0 0, .slice none 0 0, .int .i64 0, .int .i64 0, .slice none 0 0, .slice none 0 0, .bool false] 43) = x3 at *
   go_simp
   refine wpAnyH_take (i := 4) (v := .agg #[.slice (some ⟨D8, 0, none⟩) 3 3]) rfl (by kernel_rfl) (by kernel_rfl) (by kernel_rfl) (fun _ _ _ h => h) (Or.inl ⟨by rfl, fun w hSw => ?_⟩) hC3 ?_
   ·go_simp
   simp only [Act.put, List.getElem_toArray, List.getElem_cons_zero, List.getElem_cons_succ, List.setIfInBounds_toArray, List.set_cons_zero, List.set_cons_succ]
   refine wpAnyH_all (rs := [5]) (by kernel_rfl) (by simp) (fun j hj => ?_)
   obtain rfl : j = 5 := by simpa using hj
   refine Or.inl ?_
   have HS := Lib.hid (sameCluster_any [rep0, rep0, rep0] [rep0, rep0, rep0] _ _ _ _ x3 Hv7.out Hv8.out)
   rw [(sameClu_iff _ _).2 rfl] at HS
   go_wp2_with fail
   refine (HS.out).mono ?_
   rintro e x23 ⟨rfl, hb0⟩
   have hC4 := hTn _ _ hC3 hb0
   clear hb0
   generalize x23 = x4 at *
   go_simp
   refine wpAnyH_take (i := 6) (v := .bool true) rfl (by kernel_rfl) (by kernel_rfl) (by kernel_rfl) (fun _ _ _ h => h) (Or.inl ⟨by rfl, fun w hSw => ?_⟩) hC4 ?_
   ·go_simp
   simp only [Act.put, List.getElem_toArray, List.getElem_cons_zero, List.getElem_cons_succ, List.setIfInBounds_toArray, List.set_cons_zero, List.set_cons_succ]
   refine wpAnyH_take (i := 7) (v := .bool true) rfl (by kernel_rfl) (by kernel_rfl) (by kernel_rfl) (fun _ _ _ h => h) (Or.inl ⟨by rfl, fun w hSw => ?_⟩) hC4 ?_
   ·go_simp
   simp only [Act.put, List.getElem_toArray, List.getElem_cons_zero, List.getElem_cons_succ, List.setIfInBounds_toArray, List.set_cons_zero, List.set_cons_succ]
   refine wpAnyH_take (i := 8) (v := .agg #[.slice a l.length cap]) rfl (by kernel_rfl) (by kernel_rfl) (by kernel_rfl) (fun _ _ _ h => h) (Or.inl ⟨by rfl, fun w hSw => ?_⟩) hC4 ?_
   ·have yy := tc _ hSw; go_simp
   simp only [Act.put, List.getElem_toArray, List.getElem_cons_zero, List.getElem_cons_succ, List.setIfInBounds_toArray, List.set_cons_zero, List.set_cons_succ]
   refine wpAnyH_take (i := 10) (v := .int .i64 (ce)) rfl (by kernel_rfl) (by kernel_rfl) (by kernel_rfl) (fun _ _ _ h => h) (Or.inl ⟨by rfl, fun w hSw => ?_⟩) hC4 ?_
   ·go_simp
   simp only [Act.put, List.getElem_toArray, List.getElem_cons_zero, List.getElem_cons_succ, List.setIfInBounds_toArray, List.set_cons_zero, List.set_cons_succ]
   refine wpAnyH_all (rs := [9]) (by kernel_rfl) (by simp) (fun j hj => ?_)
   obtain rfl : j = 9 := by simpa using hj
   refine Or.inl ?_
   go_wp2_with fail
   refine (HCk.out _ (hTR _ hC4)).mono ?_
   rintro e x24 ⟨rfl, hb0⟩
   have hC5 := hTn _ _ hC4 hb0
   clear hb0
   generalize x24 = x5 at *
   go_simp
   refine wpAnyH_take (i := 11) (v := .bool true) rfl (by kernel_rfl) (by kernel_rfl) (by kernel_rfl) (fun _ _ _ h => h) (Or.inl ⟨by rfl, fun w hSw => ?_⟩) hC5 ?_
   ·go_simp
   simp only [Act.put, List.getElem_toArray, List.getElem_cons_zero, List.getElem_cons_succ, List.setIfInBounds_toArray, List.set_cons_zero, List.set_cons_succ]
   refine wpAnyH_take (i := 12) (v := .bool true) rfl (by kernel_rfl) (by kernel_rfl) (by kernel_rfl) (fun _ _ _ h => h) (Or.inl ⟨by rfl, fun w hSw => ?_⟩) hC5 ?_
   ·go_simp
   simp only [Act.put, List.getElem_toArray, List.getElem_cons_zero, List.getElem_cons_succ, List.setIfInBounds_toArray, List.set_cons_zero, List.set_cons_succ]
   refine wpAnyH_take (i := 13) (v := .bool true) rfl (by kernel_rfl) (by kernel_rfl) (by kernel_rfl) (fun _ _ _ h => h) (Or.inl ⟨by rfl, fun w hSw => ?_⟩) hC5 ?_
   ·go_simp
   simp only [Act.put, List.getElem_toArray, List.getElem_cons_zero, List.getElem_cons_succ, List.setIfInBounds_toArray, List.set_cons_zero, List.set_cons_succ]
   refine wpAnyH_take (i := 14) (v := .agg #[.slice a1 pl.length c1]) rfl (by kernel_rfl) (by kernel_rfl) (by kernel_rfl) (fun _ _ _ h => h) (Or.inl ⟨by rfl, fun w hSw => ?_⟩) hC5 ?_
   ·have yy := tA _ hSw; go_simp
   simp only [Act.put, List.getElem_toArray, List.getElem_cons_zero, List.getElem_cons_succ, List.setIfInBounds_toArray, List.set_cons_zero, List.set_cons_succ]
   refine wpAnyH_take (i := 15) (v := .int .i64 (ce)) rfl (by kernel_rfl) (by kernel_rfl) (by kernel_rfl) (fun _ _ _ h => h) (Or.inl ⟨by rfl, fun w hSw => ?_⟩) hC5 ?_
   ·go_simp
   simp only [Act.put, List.getElem_toArray, List.getElem_cons_zero, List.getElem_cons_succ, List.setIfInBounds_toArray, List.set_cons_zero, List.set_cons_succ]
   refine wpAnyH_take (i := 16) (v := .int .i64 (ce)) rfl (by kernel_rfl) (by kernel_rfl) (by kernel_rfl) (fun _ _ _ h => h) (Or.inl ⟨by rfl, fun w hSw => ?_⟩) hC5 ?_
   ·go_simp
   simp only [Act.put, List.getElem_toArray, List.getElem_cons_zero, List.getElem_cons_succ, List.setIfInBounds_toArray, List.set_cons_zero, List.set_cons_succ]
   refine wpAnyH_take (i := 17) (v := .agg #[.slice none 0 0]) rfl (by kernel_rfl) (by kernel_rfl) (by kernel_rfl) (fun _ _ _ h => h) (Or.inl ⟨by rfl, fun w hSw => ?_⟩) hC5 ?_
   ·have yy := tW _ hSw; go_simp
   simp only [Act.put, List.getElem_toArray, List.getElem_cons_zero, List.getElem_cons_succ, List.setIfInBounds_toArray, List.set_cons_zero, List.set_cons_succ]
   refine wpAnyH_all (rs := [18]) (by kernel_rfl) (by simp) (fun j hj => ?_)
   obtain rfl : j = 18 := by simpa using hj
   refine Or.inl ?_
   have HS := Lib.hid (clusterIs_any pl [] ce ce _ _ _ _ x5 (HvT.out.below (hTb _ hC5)) (HwT.out.below (hTb _ hC5)))
   rw [HIs.out] at HS
   go_wp2_with fail
   refine (HS.out).mono ?_
   rintro e x25 ⟨rfl, hb0⟩
   have hC6 := hTn _ _ hC5 hb0
   clear hb0
   generalize x25 = x6 at *
   go_simp
   refine wpAnyH_take (i := 19) (v := .bool true) rfl (by kernel_rfl) (by kernel_rfl) (by kernel_rfl) (fun _ _ _ h => h) (Or.inl ⟨by rfl, fun w hSw => ?_⟩) hC6 ?_
   ·go_simp
   simp only [Act.put, List.getElem_toArray, List.getElem_cons_zero, List.getElem_cons_succ, List.setIfInBounds_toArray, List.set_cons_zero, List.set_cons_succ]
   refine wpAnyH_take (i := 20) (v := .bool true) rfl (by kernel_rfl) (by kernel_rfl) (by kernel_rfl) (fun _ _ _ h => h) (Or.inl ⟨by rfl, fun w hSw => ?_⟩) hC6 ?_
   ·go_simp
   simp only [Act.put, List.getElem_toArray, List.getElem_cons_zero, List.getElem_cons_succ, List.setIfInBounds_toArray, List.set_cons_zero, List.set_cons_succ]
   refine wpAnyH_take (i := 21) (v := .bool (false)) rfl (by kernel_rfl) (by kernel_rfl) (by kernel_rfl) (fun _ _ _ h => h) (Or.inl ⟨by rfl, fun w hSw => ?_⟩) hC6 ?_
   ·go_simp
   simp only [Act.put, List.getElem_toArray, List.getElem_cons_zero, List.getElem_cons_succ, List.setIfInBounds_toArray, List.set_cons_zero, List.set_cons_succ]
   refine wpAnyH_take (i := 22) (v := .bool (false)) rfl (by kernel_rfl) (by kernel_rfl) (by kernel_rfl) (fun _ _ _ h => h) (Or.inl ⟨by rfl, fun w hSw => ?_⟩) hC6 ?_
   ·go_simp
   simp only [Act.put, List.getElem_toArray, List.getElem_cons_zero, List.getElem_cons_succ, List.setIfInBounds_toArray, List.set_cons_zero, List.set_cons_succ]
   refine wpAnyH_take (i := 23) (v := .bool true) rfl (by kernel_rfl) (by kernel_rfl) (by kernel_rfl) (fun _ _ _ h => h) (Or.inl ⟨by rfl, fun w hSw => ?_⟩) hC6 ?_
   ·go_simp
   simp only [Act.put, List.getElem_toArray, List.getElem_cons_zero, List.getElem_cons_succ, List.setIfInBounds_toArray, List.set_cons_zero, List.set_cons_succ]
   refine wpAnyH_take (i := 24) (v := .bool true) rfl (by kernel_rfl) (by kernel_rfl) (by kernel_rfl) (fun _ _ _ h => h) (Or.inl ⟨by rfl, fun w hSw => ?_⟩) hC6 ?_
   ·go_simp
   simp only [Act.put, List.getElem_toArray, List.getElem_cons_zero, List.getElem_cons_succ, List.setIfInBounds_toArray, List.set_cons_zero, List.set_cons_succ]
   refine wpAnyH_take (i := 25) (v := .bool true) rfl (by kernel_rfl) (by kernel_rfl) (by kernel_rfl) (fun _ _ _ h => h) (Or.inl ⟨by rfl, fun w hSw => ?_⟩) hC6 ?_
   ·go_simp
   simp only [Act.put, List.getElem_toArray, List.getElem_cons_zero, List.getElem_cons_succ, List.setIfInBounds_toArray, List.set_cons_zero, List.set_cons_succ]
   refine wpAnyH_take (i := 26) (v := .int .i64 (ce)) rfl (by kernel_rfl) (by kernel_rfl) (by kernel_rfl) (fun _ _ _ h => h) (Or.inl ⟨by rfl, fun w hSw => ?_⟩) hC6 ?_
   ·go_simp
   simp only [Act.put, List.getElem_toArray, List.getElem_cons_zero, List.getElem_cons_succ, List.setIfInBounds_toArray, List.set_cons_zero, List.set_cons_succ]
   refine wpAnyH_take (i := 27) (v := .int .i64 (ce)) rfl (by kernel_rfl) (by kernel_rfl) (by kernel_rfl) (fun _ _ _ h => h) (Or.inl ⟨by rfl, fun w hSw => ?_⟩) hC6 ?_
   ·go_simp
   simp only [Act.put, List.getElem_toArray, List.getElem_cons_zero, List.getElem_cons_succ, List.setIfInBounds_toArray, List.set_cons_zero, List.set_cons_succ]
   refine wpAnyH_take (i := 28) (v := .bool true) rfl (by kernel_rfl) (by kernel_rfl) (by kernel_rfl) (fun _ _ _ h => h) (Or.inl ⟨by rfl, fun w hSw => ?_⟩) hC6 ?_
   ·go_simp
   simp only [Act.put, List.getElem_toArray, List.getElem_cons_zero, List.getElem_cons_succ, List.setIfInBounds_toArray, List.set_cons_zero, List.set_cons_succ]
   refine wpAnyH_take (i := 29) (v := .bool true) rfl (by kernel_rfl) (by kernel_rfl) (by kernel_rfl) (fun _ _ _ h => h) (Or.inl ⟨by rfl, fun w hSw => ?_⟩) hC6 ?_
   ·go_simp
   simp only [Act.put, List.getElem_toArray, List.getElem_cons_zero, List.getElem_cons_succ, List.setIfInBounds_toArray, List.set_cons_zero, List.set_cons_succ]
   refine wpAnyH_take (i := 30) (v := .bool true) rfl (by kernel_rfl) (by kernel_rfl) (by kernel_rfl) (fun _ _ _ h => h) (Or.inl ⟨by rfl, fun w hSw => ?_⟩) hC6 ?_
   ·go_simp
   simp only [Act.put, List.getElem_toArray, List.getElem_cons_zero, List.getElem_cons_succ, List.setIfInBounds_toArray, List.set_cons_zero, List.set_cons_succ]
   refine wpAnyH_take (i := 31) (v := .int .i64 (0)) rfl (by kernel_rfl) (by kernel_rfl) (by kernel_rfl) (fun _ _ _ h => h) (Or.inl ⟨by rfl, fun w hSw => ?_⟩) hC6 ?_
   ·go_simp
   simp only [Act.put, List.getElem_toArray, List.getElem_cons_zero, List.getElem_cons_succ, List.setIfInBounds_toArray, List.set_cons_zero, List.set_cons_succ]
   refine wpAnyH_take (i := 32) (v := .int .i64 (0)) rfl (by kernel_rfl) (by kernel_rfl) (by kernel_rfl) (fun _ _ _ h => h) (Or.inl ⟨by rfl, fun w hSw => ?_⟩) hC6 ?_
   ·go_simp
   simp only [Act.put, List.getElem_toArray, List.getElem_cons_zero, List.getElem_cons_succ, List.setIfInBounds_toArray, List.set_cons_zero, List.set_cons_succ]
   refine wpAnyH_take (i := 33) (v := .bool true) rfl (by kernel_rfl) (by kernel_rfl) (by kernel_rfl) (fun _ _ _ h => h) (Or.inl ⟨by rfl, fun w hSw => ?_⟩) hC6 ?_
   ·go_simp
   simp only [Act.put, List.getElem_toArray, List.getElem_cons_zero, List.getElem_cons_succ, List.setIfInBounds_toArray, List.set_cons_zero, List.set_cons_succ]
   refine wpAnyH_take (i := 34) (v := .bool true) rfl (by kernel_rfl) (by kernel_rfl) (by kernel_rfl) (fun _ _ _ h => h) (Or.inl ⟨by rfl, fun w hSw => ?_⟩) hC6 ?_
   ·go_simp
   simp only [Act.put, List.getElem_toArray, List.getElem_cons_zero, List.getElem_cons_succ, List.setIfInBounds_toArray, List.set_cons_zero, List.set_cons_succ]
   refine wpAnyH_take (i := 35) (v := .bool true) rfl (by kernel_rfl) (by kernel_rfl) (by kernel_rfl) (fun _ _ _ h => h) (Or.inl ⟨by rfl, fun w hSw => ?_⟩) hC6 ?_
   ·go_simp
   simp only [Act.put, List.getElem_toArray, List.getElem_cons_zero, List.getElem_cons_succ, List.setIfInBounds_toArray, List.set_cons_zero, List.set_cons_succ]
   refine wpAnyH_done (by kernel_rfl) ?_ _
   have HE := Lib.hid (HBt.out _ hC6)
   go_wp2_with fail
   go_ret
   exact ⟨rfl, HE.out⟩
  ·skip
   obtain rfl : j = 3 := by simpa using hj
   refine Or.inl ?_
   have hC2 := hT.alloc _ (.cells #[.slice none 0 0, .slice none 0 0, .int .i64 0, .int .i64 0, .slice none 0 0, .slice none 0 0, .bool false, .slice none 0 0, .slice none 0 0, .int .i64 0, .int .i64 0, .slice none 0 0, .slice none 0 0, .bool false, .slice none 0 0, .slice none 0 0, .int .i64 0, .int .i64 0, .slice none 0 0, .slice none 0 0, .bool false] 43) hC1
   have Hv8 := Lib.hid (mk3_reps x1)
   have hb0 : Below x1.heap.size x1 (x1.alloc (.cells #[.slice none 0 0, .slice none 0 0, .int .i64 0, .int .i64 0, .slice none 0 0, .slice none 0 0, .bool false, .slice none 0 0, .slice none 0 0, .int .i64 0, .int .i64 0, .slice none 0 0, .slice none 0 0, .bool false, .slice none 0 0, .slice none 0 0, .int .i64 0, .int .i64 0, .slice none 0 0, .slice none 0 0, .bool false] 43)) := (Below.refl _ _).alloc (Nat.le_refl _) _
   go_wp2_with fail
   clear hb0
   generalize x1.heap.size = D8 at *
   generalize x1.alloc (.cells #[.slice none 0 0, .slice none 0 0, .int .i64 0, .int .i64 0, .slice none 0 0, .slice none 0 0, .bool false, .slice none 0 0, .slice none 0 0, .int .i64 0, .int .i64 0, .slice none 0 0, .slice none 0 0, .bool false, .slice none 0 0, .slice none 0 0, .int .i64 0, .int .i64 0, .slice none 0 0, .slice none 0 0, .bool false] 43) = x2 at *
   go_simp
   refine wpAnyH_take (i := 4) (v := .agg #[.slice (some ⟨D8, 0, none⟩) 3 3]) rfl (by kernel_rfl) (by kernel_rfl) (by kernel_rfl) (fun _ _ _ h => h) (Or.inl ⟨by rfl, fun w hSw => ?_⟩) hC2 ?_
   ·go_simp
   simp only [Act.put, List.getElem_toArray, List.getElem_cons_zero, List.getElem_cons_succ, List.setIfInBounds_toArray, List.set_cons_zero, List.set_cons_succ]
   refine wpAnyH_all (rs := [2]) (by kernel_rfl) (by simp) (fun j hj => ?_)
   obtain rfl : j = 2 := by simpa using hj
   refine Or.inl ?_
   go_wp2_with fail
   refine (cluNew_any _).mono ?_
   rintro e x22 ⟨v7, rfl, hv7, hb0⟩
   obtain ⟨a7, c7, hs7⟩ := hv7.vshape
   replace hs7 : v7 = .slice a7 3 c7 := hs7
   subst hs7
   have hC3 := hTn _ _ hC2 hb0
   replace Hv8 := Lib.hid (Hv8.out.below hb0)
   have Hv7 := Lib.hid hv7
   clear hv7 hb0
   generalize x22 = x3 at *
   go_simp
   refine wpAnyH_all (rs := [5]) (by kernel_rfl) (by simp) (fun j hj => ?_)
   obtain rfl : j = 5 := by simpa using hj
   refine Or.inl ?_
   have HS := Lib.hid (sameCluster_any [rep0, rep0, rep0] [rep0, rep0, rep0] _ _ _ _ x3 Hv7.out Hv8.out)
   rw [(sameClu_iff _ _).2 rfl] at HS
   go_wp2_with fail
   refine (HS.out).mono ?_
   rintro e x23 ⟨rfl, hb0⟩
   have hC4 := hTn _ _ hC3 hb0
   clear hb0
   generalize x23 = x4 at *
   go_simp
   refine wpAnyH_take (i := 6) (v := .bool true) rfl (by kernel_rfl) (by kernel_rfl) (by kernel_rfl) (fun _ _ _ h => h) (Or.inl ⟨by rfl, fun w hSw => ?_⟩) hC4 ?_
   ·go_simp
   simp only [Act.put, List.getElem_toArray, List.getElem_cons_zero, List.getElem_cons_succ, List.setIfInBounds_toArray, List.set_cons_zero, List.set_cons_succ]
   refine wpAnyH_take (i := 7) (v := .bool true) rfl (by kernel_rfl) (by kernel_rfl) (by kernel_rfl) (fun _ _ _ h => h) (Or.inl ⟨by rfl, fun w hSw => ?_⟩) hC4 ?_
   ·go_simp
   simp only [Act.put, List.getElem_toArray, List.getElem_cons_zero, List.getElem_cons_succ, List.setIfInBounds_toArray, List.set_cons_zero, List.set_cons_succ]
   refine wpAnyH_take (i := 8) (v := .agg #[.slice a l.length cap]) rfl (by kernel_rfl) (by kernel_rfl) (by kernel_rfl) (fun _ _ _ h => h) (Or.inl ⟨by rfl, fun w hSw => ?_⟩) hC4 ?_
   ·have yy := tc _ hSw; go_simp
   simp only [Act.put, List.getElem_toArray, List.getElem_cons_zero, List.getElem_cons_succ, List.setIfInBounds_toArray, List.set_cons_zero, List.set_cons_succ]
   refine wpAnyH_take (i := 10) (v := .int .i64 (ce)) rfl (by kernel_rfl) (by kernel_rfl) (by kernel_rfl) (fun _ _ _ h => h) (Or.inl ⟨by rfl, fun w hSw => ?_⟩) hC4 ?_
   ·go_simp
   simp only [Act.put, List.getElem_toArray, List.getElem_cons_zero, List.getElem_cons_succ, List.setIfInBounds_toArray, List.set_cons_zero, List.set_cons_succ]
   refine wpAnyH_all (rs := [9]) (by kernel_rfl) (by simp) (fun j hj => ?_)
   obtain rfl : j = 9 := by simpa using hj
   refine Or.inl ?_
   go_wp2_with fail
   refine (HCk.out _ (hTR _ hC4)).mono ?_
   rintro e x24 ⟨rfl, hb0⟩
   have hC5 := hTn _ _ hC4 hb0
   clear hb0
   generalize x24 = x5 at *
   go_simp
   refine wpAnyH_take (i := 11) (v := .bool true) rfl (by kernel_rfl) (by kernel_rfl) (by kernel_rfl) (fun _ _ _ h => h) (Or.inl ⟨by rfl, fun w hSw => ?_⟩) hC5 ?_
   ·go_simp
   simp only [Act.put, List.getElem_toArray, List.getElem_cons_zero, List.getElem_cons_succ, List.setIfInBounds_toArray, List.set_cons_zero, List.set_cons_succ]
   refine wpAnyH_take (i := 12) (v := .bool true) rfl (by kernel_rfl) (by kernel_rfl) (by kernel_rfl) (fun _ _ _ h => h) (Or.inl ⟨by rfl, fun w hSw => ?_⟩) hC5 ?_
   ·go_simp
   simp only [Act.put, List.getElem_toArray, List.getElem_cons_zero, List.getElem_cons_succ, List.setIfInBounds_toArray, List.set_cons_zero, List.set_cons_succ]
   refine wpAnyH_take (i := 13) (v := .bool true) rfl (by kernel_rfl) (by kernel_rfl) (by kernel_rfl) (fun _ _ _ h => h) (Or.inl ⟨by rfl, fun w hSw => ?_⟩) hC5 ?_
   ·go_simp
   simp only [Act.put, List.getElem_toArray, List.getElem_cons_zero, List.getElem_cons_succ, List.setIfInBounds_toArray, List.set_cons_zero, List.set_cons_succ]
   refine wpAnyH_take (i := 14) (v := .agg #[.slice a1 pl.length c1]) rfl (by kernel_rfl) (by kernel_rfl) (by kernel_rfl) (fun _ _ _ h => h) (Or.inl ⟨by rfl, fun w hSw => ?_⟩) hC5 ?_
   ·have yy := tA _ hSw; go_simp
   simp only [Act.put, List.getElem_toArray, List.getElem_cons_zero, List.getElem_cons_succ, List.setIfInBounds_toArray, List.set_cons_zero, List.set_cons_succ]
   refine wpAnyH_take (i := 15) (v := .int .i64 (ce)) rfl (by kernel_rfl) (by kernel_rfl) (by kernel_rfl) (fun _ _ _ h => h) (Or.inl ⟨by rfl, fun w hSw => ?_⟩) hC5 ?_
   ·go_simp
   simp only [Act.put, List.getElem_toArray, List.getElem_cons_zero, List.getElem_cons_succ, List.setIfInBounds_toArray, List.set_cons_zero, List.set_cons_succ]
   refine wpAnyH_take (i := 16) (v := .int .i64 (ce)) rfl (by kernel_rfl) (by kernel_rfl) (by kernel_rfl) (fun _ _ _ h => h) (Or.inl ⟨by rfl, fun w hSw => ?_⟩) hC5 ?_
   ·go_simp
   simp only [Act.put, List.getElem_toArray, List.getElem_cons_zero, List.getElem_cons_succ, List.setIfInBounds_toArray, List.set_cons_zero, List.set_cons_succ]
   refine wpAnyH_take (i := 17) (v := .agg #[.slice none 0 0]) rfl (by kernel_rfl) (by kernel_rfl) (by kernel_rfl) (fun _ _ _ h => h) (Or.inl ⟨by rfl, fun w hSw => ?_⟩) hC5 ?_
   ·have yy := tW _ hSw; go_simp
   simp only [Act.put, List.getElem_toArray, List.getElem_cons_zero, List.getElem_cons_succ, List.setIfInBounds_toArray, List.set_cons_zero, List.set_cons_succ]
   refine wpAnyH_all (rs := [18]) (by kernel_rfl) (by simp) (fun j hj => ?_)
   obtain rfl : j = 18 := by simpa using hj
   refine Or.inl ?_
   have HS := Lib.hid (clusterIs_any pl [] ce ce _ _ _ _ x5 (HvT.out.below (hTb _ hC5)) (HwT.out.below (hTb _ hC5)))
   rw [HIs.out] at HS
   go_wp2_with fail
   refine (HS.out).mono ?_
   rintro e x25 ⟨rfl, hb0⟩
   have hC6 := hTn _ _ hC5 hb0
   clear hb0
   generalize x25 = x6 at *
   go_simp
   refine wpAnyH_take (i := 19) (v := .bool true) rfl (by kernel_rfl) (by kernel_rfl) (by kernel_rfl) (fun _ _ _ h => h) (Or.inl ⟨by rfl, fun w hSw => ?_⟩) hC6 ?_
   ·go_simp
   simp only [Act.put, List.getElem_toArray, List.getElem_cons_zero, List.getElem_cons_succ, List.setIfInBounds_toArray, List.set_cons_zero, List.set_cons_succ]
   refine wpAnyH_take (i := 20) (v := .bool true) rfl (by kernel_rfl) (by kernel_rfl) (by kernel_rfl) (fun _ _ _ h => h) (Or.inl ⟨by rfl, fun w hSw => ?_⟩) hC6 ?_
   ·go_simp
   simp only [Act.put, List.getElem_toArray, List.getElem_cons_zero, List.getElem_cons_succ, List.setIfInBounds_toArray, List.set_cons_zero, List.set_cons_succ]
   refine wpAnyH_take (i := 21) (v := .bool (false)) rfl (by kernel_rfl) (by kernel_rfl) (by kernel_rfl) (fun _ _ _ h => h) (Or.inl ⟨by rfl, fun w hSw => ?_⟩) hC6 ?_
   ·go_simp
   simp only [Act.put, List.getElem_toArray, List.getElem_cons_zero, List.getElem_cons_succ, List.setIfInBounds_toArray, List.set_cons_zero, List.set_cons_succ]
   refine wpAnyH_take (i := 22) (v := .bool (false)) rfl (by kernel_rfl) (by kernel_rfl) (by kernel_rfl) (fun _ _ _ h => h) (Or.inl ⟨by rfl, fun w hSw => ?_⟩) hC6 ?_
   ·go_simp
   simp only [Act.put, List.getElem_toArray, List.getElem_cons_zero, List.getElem_cons_succ, List.setIfInBounds_toArray, List.set_cons_zero, List.set_cons_succ]
   refine wpAnyH_take (i := 23) (v := .bool true) rfl (by kernel_rfl) (by kernel_rfl) (by kernel_rfl) (fun _ _ _ h => h) (Or.inl ⟨by rfl, fun w hSw => ?_⟩) hC6 ?_
   ·go_simp
   simp only [Act.put, List.getElem_toArray, List.getElem_cons_zero, List.getElem_cons_succ, List.setIfInBounds_toArray, List.set_cons_zero, List.set_cons_succ]
   refine wpAnyH_take (i := 24) (v := .bool true) rfl (by kernel_rfl) (by kernel_rfl) (by kernel_rfl) (fun _ _ _ h => h) (Or.inl ⟨by rfl, fun w hSw => ?_⟩) hC6 ?_
   ·go_simp
   simp only [Act.put, List.getElem_toArray, List.getElem_cons_zero, List.getElem_cons_succ, List.setIfInBounds_toArray, List.set_cons_zero, List.set_cons_succ]
   refine wpAnyH_take (i := 25) (v := .bool true) rfl (by kernel_rfl) (by kernel_rfl) (by kernel_rfl) (fun _ _ _ h => h) (Or.inl ⟨by rfl, fun w hSw => ?_⟩) hC6 ?_
   ·go_simp
   simp only [Act.put, List.getElem_toArray, List.getElem_cons_zero, List.getElem_cons_succ, List.setIfInBounds_toArray, List.set_cons_zero, List.set_cons_succ]
   refine wpAnyH_take (i := 26) (v := .int .i64 (ce)) rfl (by kernel_rfl) (by kernel_rfl) (by kernel_rfl) (fun _ _ _ h => h) (Or.inl ⟨by rfl, fun w hSw => ?_⟩) hC6 ?_
   ·go_simp
   simp only [Act.put, List.getElem_toArray, List.getElem_cons_zero, List.getElem_cons_succ, List.setIfInBounds_toArray, List.set_cons_zero, List.set_cons_succ]
   refine wpAnyH_take (i := 27) (v := .int .i64 (ce)) rfl (by kernel_rfl) (by kernel_rfl) (by kernel_rfl) (fun _ _ _ h => h) (Or.inl ⟨by rfl, fun w hSw => ?_⟩) hC6 ?_
   ·go_simp
   simp only [Act.put, List.getElem_toArray, List.getElem_cons_zero, List.getElem_cons_succ, List.setIfInBounds_toArray, List.set_cons_zero, List.set_cons_succ]
   refine wpAnyH_take (i := 28) (v := .bool true) rfl (by kernel_rfl) (by kernel_rfl) (by kernel_rfl) (fun _ _ _ h => h) (Or.inl ⟨by rfl, fun w hSw => ?_⟩) hC6 ?_
   ·go_simp
   simp only [Act.put, List.getElem_toArray, List.getElem_cons_zero, List.getElem_cons_succ, List.setIfInBounds_toArray, List.set_cons_zero, List.set_cons_succ]
   refine wpAnyH_take (i := 29) (v := .bool true) rfl (by kernel_rfl) (by kernel_rfl) (by kernel_rfl) (fun _ _ _ h => h) (Or.inl ⟨by rfl, fun w hSw => ?_⟩) hC6 ?_
   ·go_simp
   simp only [Act.put, List.getElem_toArray, List.getElem_cons_zero, List.getElem_cons_succ, List.setIfInBounds_toArray, List.set_cons_zero, List.set_cons_succ]
   refine wpAnyH_take (i := 30) (v := .bool true) rfl (by kernel_rfl) (by kernel_rfl) (by kernel_rfl) (fun _ _ _ h => h) (Or.inl ⟨by rfl, fun w hSw => ?_⟩) hC6 ?_
   ·go_simp
   simp only [Act.put, List.getElem_toArray, List.getElem_cons_zero, List.getElem_cons_succ, List.setIfInBounds_toArray, List.set_cons_zero, List.set_cons_succ]
   refine wpAnyH_take (i := 31) (v := .int .i64 (0)) rfl (by kernel_rfl) (by kernel_rfl) (by kernel_rfl) (fun _ _ _ h => h) (Or.inl ⟨by rfl, fun w hSw => ?_⟩) hC6 ?_
   ·go_simp
   simp only [Act.put, List.getElem_toArray, List.getElem_cons_zero, List.getElem_cons_succ, List.setIfInBounds_toArray, List.set_cons_zero, List.set_cons_succ]
   refine wpAnyH_take (i := 32) (v := .int .i64 (0)) rfl (by kernel_rfl) (by kernel_rfl) (by kernel_rfl) (fun _ _ _ h => h) (Or.inl ⟨by rfl, fun w hSw => ?_⟩) hC6 ?_
   ·go_simp
   simp only [Act.put, List.getElem_toArray, List.getElem_cons_zero, List.getElem_cons_succ, List.setIfInBounds_toArray, List.set_cons_zero, List.set_cons_succ]
   refine wpAnyH_take (i := 33) (v := .bool true) rfl (by kernel_rfl) (by kernel_rfl) (by kernel_rfl) (fun _ _ _ h => h) (Or.inl ⟨by rfl, fun w hSw => ?_⟩) hC6 ?_
   ·go_simp
   simp only [Act.put, List.getElem_toArray, List.getElem_cons_zero, List.getElem_cons_succ, List.setIfInBounds_toArray, List.set_cons_zero, List.set_cons_succ]
   refine wpAnyH_take (i := 34) (v := .bool true) rfl (by kernel_rfl) (by kernel_rfl) (by kernel_rfl) (fun _ _ _ h => h) (Or.inl ⟨by rfl, fun w hSw => ?_⟩) hC6 ?_
   ·go_simp
   simp only [Act.put, List.getElem_toArray, List.getElem_cons_zero, List.getElem_cons_succ, List.setIfInBounds_toArray, List.set_cons_zero, List.set_cons_succ]
   refine wpAnyH_take (i := 35) (v := .bool true) rfl (by kernel_rfl) (by kernel_rfl) (by kernel_rfl) (fun _ _ _ h => h) (Or.inl ⟨by rfl, fun w hSw => ?_⟩) hC6 ?_
   ·go_simp
   simp only [Act.put, List.getElem_toArray, List.getElem_cons_zero, List.getElem_cons_succ, List.setIfInBounds_toArray, List.set_cons_zero, List.set_cons_succ]
   refine wpAnyH_done (by kernel_rfl) ?_ _
   have HE := Lib.hid (HBt.out _ hC6)
   go_wp2_with fail
   go_ret
   exact ⟨rfl, HE.out⟩
 case pos =>
  have hc := clu_right.1 hz
  have e1 : pushCE l p up late = pushRE l p up late := by unfold pushCE; rw [if_neg (by simpa using hz)]
  have e2 : pushCL l p up late = pushRL l p up late := by unfold pushCL; rw [if_pos hz]
  have e3 : pushCD l p up late = pushRD l p up late := by unfold pushCD; rw [if_pos hz]
  rw [e1, e2, e3] at HPu
  rw [if_pos hz] at Hnw
  rw [Hnw.out] at HNw
  replace HPo := Lib.hid (fun x (hx : In R x) => HPo.out x hx hc)
  have HIs := Lib.hid (show cluIsB (pushRL l p up late) (pushRE l p up late) (pushRE l p up late) (pushRL l p up late) = true by
   unfold cluIsB
   by_cases he : pushRE l p up late = 0
   ·rw [if_pos he, (sameClu_iff _ _).2 rfl]; simp
   ·rw [if_neg he, show pushRL l p up late = [] by unfold pushRL; rw [if_neg he], (sameClu_iff _ _).2 rfl]; simp)
  have Hlp := Lib.hid (show (pushRL l p up late).length * 120 ≤ 140737488351232 by unfold pushRL; split; exact (show 3 * 120 ≤ 140737488351232 by decide); decide)
  have Hz0 := Lib.hid hz
  rw [hz] at HNw HCc HCk
  clear e1 e2 e3 hz hc Hnw
  generalize pushRL l p up late = pl at *
  generalize pushRE l p up late = pe at *
  generalize pushRD l p up late = pd at *
  generalize best l = bl at *
  go_enter Tryz.func3, Tryz.ntmps3
  go_wp2_with fail
  refine (HPu.out _ hR1).mono ?_
  rintro e w1 ⟨v1, rfl, ⟨F1, hO1, hF1⟩, hb1⟩
  obtain ⟨a1, c1, rfl⟩ := hO1.shape
  have hR2 := hRn _ _ hR1 hb1
  clear cc r0 r1 r2
  have Hv1 := Lib.hid (hO1.any Hlp.out).low
  have hbA : Below w1.heap.size w1 (w1.alloc (.cells #[.slice a1 pl.length c1] 24)) := (Below.refl _ _).alloc (Nat.le_refl _) _
  have hRA := hR.alloc _ (.cells #[.slice a1 pl.length c1] 24) hR2
  have HA := Lib.hid (heap_alloc_new w1 (.cells #[.slice a1 pl.length c1] 24))
  have HvA := Lib.hid (Hv1.out.below hbA)
  clear hO1 hF1 hb1 hbA Hv1
  have cc := c0 _ hRA
  go_wp2_with fail
  refine (HNw.out _ hRA).mono ?_
  rintro e w2 ⟨rfl, hb2⟩
  have hR3 := hRn _ _ hRA hb2
  clear cc
  have HA2 := Lib.hid (blk_below HA.out hb2)
  have HvA2 := Lib.hid (HvA.out.below hb2)
  clear HA HvA hb2
  generalize w1.heap.size = DA at *
  have cc := c0 _ hR3
  go_wp2_with fail
  refine (HCc.out _ hR3).mono ?_
  rintro e w3 ⟨rfl, hb3⟩
  have hR4 := hRn _ _ hR3 hb3
  clear cc
  have HA3 := Lib.hid (blk_below HA2.out hb3)
  have HvA3 := Lib.hid (HvA2.out.below hb3)
  clear HA2 HvA2 hb3
  have hR5 := hR.alloc _ (.cells #[.slice none 0 0] 24) hR4
  have hb5 : Below w3.heap.size w3 (w3.alloc (.cells #[.slice none 0 0] 24)) := (Below.refl _ _).alloc (Nat.le_refl _) _
  have HA4 := Lib.hid (blk_below HA3.out hb5)
  have HvA4 := Lib.hid ((HvA3.out.low.below hb5).weaken (S' := fun b => b < w3.heap.size) fun b hb => hb.2)
  have HW4 := Lib.hid (heap_alloc_new w3 (.cells #[.slice none 0 0] 24))
  have hDA : DA < w3.heap.size := lt_of_block HA3.out
  have hws : w.heap.size < w3.heap.size := World.block_lt_of_cell? _ _ (c0 _ hR4)
  clear hb5
  have cc := c0 _ hR5
  go_wp2_with fail
  refine (HBe.out _ hR5).mono ?_
  rintro e w5 ⟨rfl, hb6⟩
  have hR6 := hRn _ _ hR5 hb6
  clear cc
  have HA5 := Lib.hid (blk_below HA4.out hb6)
  have HvA5 := Lib.hid (HvA4.out.below hb6)
  have HW5 := Lib.hid (blk_below HW4.out hb6)
  clear HA4 HvA4 HW4 hb6
  generalize w3.heap.size = DW at *
  have cc := c0 _ hR6
  have r0 := p0 _ hR6
  have r1 := p1 _ hR6
  have r2 := p2 _ hR6
  go_wp2_with fail
  refine (HPo.out _ hR6).mono ?_
  rintro e w6 ⟨v6, rfl, hv6, hb6⟩
  obtain ⟨a6, c6, rfl⟩ := hv6.vshape
  have hR7 := hRn _ _ hR6 hb6
  clear cc r0 r1 r2
  have HA6 := Lib.hid (blk_below HA5.out hb6)
  have HvA6 := Lib.hid (HvA5.out.below hb6)
  have HW6 := Lib.hid (blk_below HW5.out hb6)
  have hDl := lt_of_block HW5.out
  have Hv6 := Lib.hid (hv6.weaken (S' := fun b => b ≠ DW) fun b hb e => by rcases hb with (h | h) | h; have := h.2; omega; omega; omega)
  clear HA5 HvA5 HW5 hb6 hv6
  have gz := block_cell (j := 0) HW6.out rfl
  have fz := block_free (j := 0) HW6.out
  have hu7 : Upd (fun b => b = DW) w6 (w6.setCell ⟨DW, 0, none⟩ (.slice a6 pl.length c6)) := (Upd.refl (fun b => b = DW) _).setCell (p := ⟨DW, 0, none⟩) (fun _ => rfl) _
  have HA4 := Lib.hid (hu7.blk HA6.out (fun e => by have e2 : DA = DW := e; omega))
  have HvT := Lib.hid (HvA6.out.upd hu7 (fun b hb e => by have e2 : b = DW := e; omega))
  have HwT := Lib.hid (Hv6.out.upd hu7 (fun b hb e => hb e))
  have HW4 := Lib.hid (block_setCell (j := 0) HW6.out (.slice a6 pl.length c6))
  have hws2 : w.heap.size < DW := hws
  have HB7 := Lib.hid ((hRb _ hR7).trans (hu7.below (B := w.heap.size) (hRb _ hR7).size (fun b hb => by have e2 : b = DW := hb; omega)))
  have HcB := Lib.hid (hu7.cell (c0 _ hR7) (fun e => by have e2 : w.heap.size = DW := e; omega))
  go_upto_region 11 with fail
  clear gz fz hu7
  generalize w6.setCell ⟨DW, 0, none⟩ (.slice a6 pl.length c6) = t0 at *
  obtain ⟨T, hT, hT1, _⟩ := cls_plain t0
  have hTb := hT.below
  have hTn := hT.next
  have tc := fun x (hx : In T x) => below_cell (hTb _ hx) HcB.out
  have tA := fun x (hx : In T x) => below_cell (hTb _ hx) (block_cell (j := 0) HA4.out rfl)
  have tW := fun x (hx : In T x) => below_cell (hTb _ hx) (block_cell (j := 0) HW4.out rfl)
  have HBt := Lib.hid (fun x (hx : In T x) => below_next HB7.out (hTb _ hx))
  have HCk2 := Lib.hid (fun x (hx : In T x) => (show Calls Tryz.prog 16 #[.agg #[.slice a l.length cap]] x fun e w' => e = .returned (.int .i64 0) ∧ Below x.heap.size x w' from by
  have hC := cluCheck_any l _ _ x (H.out.below (HBt.out x hx))
  rw [Hz0.out] at hC
  exact hC))
  refine wp_region_held (S := In T) (by kernel_rfl) ?_
  change wpAnyH _ _ _ _ _ _ _ _ (World.drew _)
  have hC0 := hT.drew _ hT1
  generalize hx0 : t0.drew = x0 at hC0 ⊢
  clear hx0
  refine wpAnyH_all (rs := [0]) (by kernel_rfl) (by simp) (fun j hj => ?_)
  obtain rfl : j = 0 := by simpa using hj
  refine Or.inl ?_
  go_wp2_with fail
  refine (clusterBegun_any x0 (HTw.out.below (HBt.out _ hC0))).mono ?_
  rintro e x20 ⟨rfl, hb0⟩
  have hC1 := hTn _ _ hC0 hb0
  clear hb0
  generalize x20 = x1 at *
  go_simp
  refine wpAnyH_take (i := 1) (v := .bool true) rfl (by kernel_rfl) (by kernel_rfl) (by kernel_rfl) (fun _ _ _ h => h) (Or.inl ⟨by rfl, fun w hSw => ?_⟩) hC1 ?_
  ·go_simp
  simp only [Act.put, List.getElem_toArray, List.getElem_cons_zero, List.getElem_cons_succ, List.setIfInBounds_toArray, List.set_cons_zero, List.set_cons_succ]
  refine wpAnyH_all (rs := [2, 3]) (by kernel_rfl) (by simp) (fun j hj => ?_)
  rcases List.mem_cons.1 hj with rfl | hj
  ·skip
   refine Or.inl ?_
   go_wp2_with fail
   refine (cluNew_any _).mono ?_
   rintro e x21 ⟨v7, rfl, hv7, hb0⟩
   obtain ⟨a7, c7, hs7⟩ := hv7.vshape
   replace hs7 : v7 = .slice a7 3 c7 := hs7
   subst hs7
   have hC2 := hTn _ _ hC1 hb0
   have Hv7 := Lib.hid hv7
   clear hv7 hb0
   generalize x21 = x2 at *
   go_simp
   refine wpAnyH_all (rs := [3]) (by kernel_rfl) (by simp) (fun j hj => ?_)
   obtain rfl : j = 3 := by simpa using hj
   refine Or.inl ?_
   have hC3 := hT.alloc _ (.cells #[.slice none 0 0, .slice none 0 0, .int .i64 0, .int .i64 0, .slice none 0 0, .slice none 0 0, .bool false, .slice none 0 0, .slice none 0 0, .int .i64 0, .int .i64 0, .slice none 0 0, .slice none 0 0, .bool false, .slice none 0 0, .slice none 0 0, .int .i64 0, .int .i64 0, .slice none 0 0, .slice none 0 0, .bool false] 43) hC2
   have Hv8 := Lib.hid (mk3_reps x2)
   have hb0 : Below x2.heap.size x2 (x2.alloc (.cells #[.slice none 0 0, .slice none 0 0, .int .i64 0, .int .i64 0, .slice none 0 0, .slice none 0 0, .bool false, .slice none 0 0, .slice none 0 0, .int .i64 0, .int .i64 0, .slice none 0 0, .slice none 0 0, .bool false, .slice none 0 0, .slice none 0 0, .int .i64 0, .int .i64 0, .slice none 0 0, .slice none 0 0, .bool false] 43)) := (Below.refl _ _).alloc (Nat.le_refl _) _
   replace Hv7 := Lib.hid (Hv7.out.below hb0)
   go_wp2_with fail
   clear hb0
   generalize x2.heap.size = D8 at *
   generalize x2.alloc (.cells #[.slice none 0 0, .slice none 0 0, .int .i64 0, .int .i64 0, .slice none 0 0, .slice none 0 0, .bool false, .slice none 0 0, .slice none 0 0, .int .i64 0, .int .i64 0, .slice none 0 0, .slice none 0 0, .bool false, .slice none 0 0, .slice none 0 0, .int .i64 0, .int .i64 0, .slice none 0 0, .slice none 0 0, .bool false] 43) = x3 at *
   go_simp
   refine wpAnyH_take (i := 4) (v := .agg #[.slice (some ⟨D8, 0, none⟩) 3 3]) rfl (by kernel_rfl) (by kernel_rfl) (by kernel_rfl) (fun _ _ _ h => h) (Or.inl ⟨by rfl, fun w hSw => ?_⟩) hC3 ?_
   ·go_simp
   simp only [Act.put, List.getElem_toArray, List.getElem_cons_zero, List.getElem_cons_succ, List.setIfInBounds_toArray, List.set_cons_zero, List.set_cons_succ]
   refine wpAnyH_all (rs := [5]) (by kernel_rfl) (by simp) (fun j hj => ?_)
   obtain rfl : j = 5 := by simpa using hj
   refine Or.inl ?_
   have HS := Lib.hid (sameCluster_any [rep0, rep0, rep0] [rep0, rep0, rep0] _ _ _ _ x3 Hv7.out Hv8.out)
   rw [(sameClu_iff _ _).2 rfl] at HS
   go_wp2_with fail
   refine (HS.out).mono ?_
   rintro e x23 ⟨rfl, hb0⟩
   have hC4 := hTn _ _ hC3 hb0
   clear hb0
   generalize x23 = x4 at *
   go_simp
   refine wpAnyH_take (i := 6) (v := .bool true) rfl (by kernel_rfl) (by kernel_rfl) (by kernel_rfl) (fun _ _ _ h => h) (Or.inl ⟨by rfl, fun w hSw => ?_⟩) hC4 ?_
   ·go_simp
   simp only [Act.put, List.getElem_toArray, List.getElem_cons_zero, List.getElem_cons_succ, List.setIfInBounds_toArray, List.set_cons_zero, List.set_cons_succ]
   refine wpAnyH_take (i := 7) (v := .bool true) rfl (by kernel_rfl) (by kernel_rfl) (by kernel_rfl) (fun _ _ _ h => h) (Or.inl ⟨by rfl, fun w hSw => ?_⟩) hC4 ?_
   ·go_simp
   simp only [Act.put, List.getElem_toArray, List.getElem_cons_zero, List.getElem_cons_succ, List.setIfInBounds_toArray, List.set_cons_zero, List.set_cons_succ]
   refine wpAnyH_take (i := 8) (v := .agg #[.slice a l.length cap]) rfl (by kernel_rfl) (by kernel_rfl) (by kernel_rfl) (fun _ _ _ h => h) (Or.inl ⟨by rfl, fun w hSw => ?_⟩) hC4 ?_
   ·have yy := tc _ hSw; go_simp
   simp only [Act.put, List.getElem_toArray, List.getElem_cons_zero, List.getElem_cons_succ, List.setIfInBounds_toArray, List.set_cons_zero, List.set_cons_succ]
   refine wpAnyH_take (i := 10) (v := .int .i64 (0)) rfl (by kernel_rfl) (by kernel_rfl) (by kernel_rfl) (fun _ _ _ h => h) (Or.inl ⟨by rfl, fun w hSw => ?_⟩) hC4 ?_
   ·go_simp
   simp only [Act.put, List.getElem_toArray, List.getElem_cons_zero, List.getElem_cons_succ, List.setIfInBounds_toArray, List.set_cons_zero, List.set_cons_succ]
   refine wpAnyH_all (rs := [9]) (by kernel_rfl) (by simp) (fun j hj => ?_)
   obtain rfl : j = 9 := by simpa using hj
   refine Or.inl ?_
   go_wp2_with fail
   refine (HCk2.out _ hC4).mono ?_
   rintro e x24 ⟨rfl, hb0⟩
   have hC5 := hTn _ _ hC4 hb0
   clear hb0
   generalize x24 = x5 at *
   go_simp
   refine wpAnyH_take (i := 11) (v := .bool true) rfl (by kernel_rfl) (by kernel_rfl) (by kernel_rfl) (fun _ _ _ h => h) (Or.inl ⟨by rfl, fun w hSw => ?_⟩) hC5 ?_
   ·go_simp
   simp only [Act.put, List.getElem_toArray, List.getElem_cons_zero, List.getElem_cons_succ, List.setIfInBounds_toArray, List.set_cons_zero, List.set_cons_succ]
   refine wpAnyH_take (i := 12) (v := .bool true) rfl (by kernel_rfl) (by kernel_rfl) (by kernel_rfl) (fun _ _ _ h => h) (Or.inl ⟨by rfl, fun w hSw => ?_⟩) hC5 ?_
   ·go_simp
   simp only [Act.put, List.getElem_toArray, List.getElem_cons_zero, List.getElem_cons_succ, List.setIfInBounds_toArray, List.set_cons_zero, List.set_cons_succ]
   refine wpAnyH_take (i := 13) (v := .bool true) rfl (by kernel_rfl) (by kernel_rfl) (by kernel_rfl) (fun _ _ _ h => h) (Or.inl ⟨by rfl, fun w hSw => ?_⟩) hC5 ?_
   ·go_simp
   simp only [Act.put, List.getElem_toArray, List.getElem_cons_zero, List.getElem_cons_succ, List.setIfInBounds_toArray, List.set_cons_zero, List.set_cons_succ]
   refine wpAnyH_take (i := 14) (v := .agg #[.slice a1 pl.length c1]) rfl (by kernel_rfl) (by kernel_rfl) (by kernel_rfl) (fun _ _ _ h => h) (Or.inl ⟨by rfl, fun w hSw => ?_⟩) hC5 ?_
   ·have yy := tA _ hSw; go_simp
   simp only [Act.put, List.getElem_toArray, List.getElem_cons_zero, List.getElem_cons_succ, List.setIfInBounds_toArray, List.set_cons_zero, List.set_cons_succ]
   refine wpAnyH_take (i := 15) (v := .int .i64 (pe)) rfl (by kernel_rfl) (by kernel_rfl) (by kernel_rfl) (fun _ _ _ h => h) (Or.inl ⟨by rfl, fun w hSw => ?_⟩) hC5 ?_
   ·go_simp
   simp only [Act.put, List.getElem_toArray, List.getElem_cons_zero, List.getElem_cons_succ, List.setIfInBounds_toArray, List.set_cons_zero, List.set_cons_succ]
   refine wpAnyH_take (i := 16) (v := .int .i64 (pe)) rfl (by kernel_rfl) (by kernel_rfl) (by kernel_rfl) (fun _ _ _ h => h) (Or.inl ⟨by rfl, fun w hSw => ?_⟩) hC5 ?_
   ·go_simp
   simp only [Act.put, List.getElem_toArray, List.getElem_cons_zero, List.getElem_cons_succ, List.setIfInBounds_toArray, List.set_cons_zero, List.set_cons_succ]
   refine wpAnyH_take (i := 17) (v := .agg #[.slice a6 pl.length c6]) rfl (by kernel_rfl) (by kernel_rfl) (by kernel_rfl) (fun _ _ _ h => h) (Or.inl ⟨by rfl, fun w hSw => ?_⟩) hC5 ?_
   ·have yy := tW _ hSw; go_simp
   simp only [Act.put, List.getElem_toArray, List.getElem_cons_zero, List.getElem_cons_succ, List.setIfInBounds_toArray, List.set_cons_zero, List.set_cons_succ]
   refine wpAnyH_all (rs := [18]) (by kernel_rfl) (by simp) (fun j hj => ?_)
   obtain rfl : j = 18 := by simpa using hj
   refine Or.inl ?_
   have HS := Lib.hid (clusterIs_any pl pl pe pe _ _ _ _ x5 (HvT.out.below (hTb _ hC5)) (HwT.out.below (hTb _ hC5)))
   rw [HIs.out] at HS
   go_wp2_with fail
   refine (HS.out).mono ?_
   rintro e x25 ⟨rfl, hb0⟩
   have hC6 := hTn _ _ hC5 hb0
   clear hb0
   generalize x25 = x6 at *
   go_simp
   refine wpAnyH_take (i := 19) (v := .bool true) rfl (by kernel_rfl) (by kernel_rfl) (by kernel_rfl) (fun _ _ _ h => h) (Or.inl ⟨by rfl, fun w hSw => ?_⟩) hC6 ?_
   ·go_simp
   simp only [Act.put, List.getElem_toArray, List.getElem_cons_zero, List.getElem_cons_succ, List.setIfInBounds_toArray, List.set_cons_zero, List.set_cons_succ]
   refine wpAnyH_take (i := 20) (v := .bool true) rfl (by kernel_rfl) (by kernel_rfl) (by kernel_rfl) (fun _ _ _ h => h) (Or.inl ⟨by rfl, fun w hSw => ?_⟩) hC6 ?_
   ·go_simp
   simp only [Act.put, List.getElem_toArray, List.getElem_cons_zero, List.getElem_cons_succ, List.setIfInBounds_toArray, List.set_cons_zero, List.set_cons_succ]
   refine wpAnyH_take (i := 21) (v := .bool (pd)) rfl (by kernel_rfl) (by kernel_rfl) (by kernel_rfl) (fun _ _ _ h => h) (Or.inl ⟨by rfl, fun w hSw => ?_⟩) hC6 ?_
   ·go_simp
   simp only [Act.put, List.getElem_toArray, List.getElem_cons_zero, List.getElem_cons_succ, List.setIfInBounds_toArray, List.set_cons_zero, List.set_cons_succ]
   refine wpAnyH_take (i := 22) (v := .bool (pd)) rfl (by kernel_rfl) (by kernel_rfl) (by kernel_rfl) (fun _ _ _ h => h) (Or.inl ⟨by rfl, fun w hSw => ?_⟩) hC6 ?_
   ·go_simp
   simp only [Act.put, List.getElem_toArray, List.getElem_cons_zero, List.getElem_cons_succ, List.setIfInBounds_toArray, List.set_cons_zero, List.set_cons_succ]
   refine wpAnyH_take (i := 23) (v := .bool true) rfl (by kernel_rfl) (by kernel_rfl) (by kernel_rfl) (fun _ _ _ h => h) (Or.inl ⟨by rfl, fun w hSw => ?_⟩) hC6 ?_
   ·go_simp
   simp only [Act.put, List.getElem_toArray, List.getElem_cons_zero, List.getElem_cons_succ, List.setIfInBounds_toArray, List.set_cons_zero, List.set_cons_succ]
   refine wpAnyH_take (i := 24) (v := .bool true) rfl (by kernel_rfl) (by kernel_rfl) (by kernel_rfl) (fun _ _ _ h => h) (Or.inl ⟨by rfl, fun w hSw => ?_⟩) hC6 ?_
   ·go_simp
   simp only [Act.put, List.getElem_toArray, List.getElem_cons_zero, List.getElem_cons_succ, List.setIfInBounds_toArray, List.set_cons_zero, List.set_cons_succ]
   refine wpAnyH_take (i := 25) (v := .bool true) rfl (by kernel_rfl) (by kernel_rfl) (by kernel_rfl) (fun _ _ _ h => h) (Or.inl ⟨by rfl, fun w hSw => ?_⟩) hC6 ?_
   ·go_simp
   simp only [Act.put, List.getElem_toArray, List.getElem_cons_zero, List.getElem_cons_succ, List.setIfInBounds_toArray, List.set_cons_zero, List.set_cons_succ]
   refine wpAnyH_take (i := 26) (v := .int .i64 (0)) rfl (by kernel_rfl) (by kernel_rfl) (by kernel_rfl) (fun _ _ _ h => h) (Or.inl ⟨by rfl, fun w hSw => ?_⟩) hC6 ?_
   ·go_simp
   simp only [Act.put, List.getElem_toArray, List.getElem_cons_zero, List.getElem_cons_succ, List.setIfInBounds_toArray, List.set_cons_zero, List.set_cons_succ]
   refine wpAnyH_take (i := 27) (v := .int .i64 (0)) rfl (by kernel_rfl) (by kernel_rfl) (by kernel_rfl) (fun _ _ _ h => h) (Or.inl ⟨by rfl, fun w hSw => ?_⟩) hC6 ?_
   ·go_simp
   simp only [Act.put, List.getElem_toArray, List.getElem_cons_zero, List.getElem_cons_succ, List.setIfInBounds_toArray, List.set_cons_zero, List.set_cons_succ]
   refine wpAnyH_take (i := 28) (v := .bool true) rfl (by kernel_rfl) (by kernel_rfl) (by kernel_rfl) (fun _ _ _ h => h) (Or.inl ⟨by rfl, fun w hSw => ?_⟩) hC6 ?_
   ·go_simp
   simp only [Act.put, List.getElem_toArray, List.getElem_cons_zero, List.getElem_cons_succ, List.setIfInBounds_toArray, List.set_cons_zero, List.set_cons_succ]
   refine wpAnyH_take (i := 29) (v := .bool true) rfl (by kernel_rfl) (by kernel_rfl) (by kernel_rfl) (fun _ _ _ h => h) (Or.inl ⟨by rfl, fun w hSw => ?_⟩) hC6 ?_
   ·go_simp
   simp only [Act.put, List.getElem_toArray, List.getElem_cons_zero, List.getElem_cons_succ, List.setIfInBounds_toArray, List.set_cons_zero, List.set_cons_succ]
   refine wpAnyH_take (i := 30) (v := .bool true) rfl (by kernel_rfl) (by kernel_rfl) (by kernel_rfl) (fun _ _ _ h => h) (Or.inl ⟨by rfl, fun w hSw => ?_⟩) hC6 ?_
   ·go_simp
   simp only [Act.put, List.getElem_toArray, List.getElem_cons_zero, List.getElem_cons_succ, List.setIfInBounds_toArray, List.set_cons_zero, List.set_cons_succ]
   refine wpAnyH_take (i := 31) (v := .int .i64 ((bl : Int))) rfl (by kernel_rfl) (by kernel_rfl) (by kernel_rfl) (fun _ _ _ h => h) (Or.inl ⟨by rfl, fun w hSw => ?_⟩) hC6 ?_
   ·go_simp
   simp only [Act.put, List.getElem_toArray, List.getElem_cons_zero, List.getElem_cons_succ, List.setIfInBounds_toArray, List.set_cons_zero, List.set_cons_succ]
   refine wpAnyH_take (i := 32) (v := .int .i64 ((bl : Int))) rfl (by kernel_rfl) (by kernel_rfl) (by kernel_rfl) (fun _ _ _ h => h) (Or.inl ⟨by rfl, fun w hSw => ?_⟩) hC6 ?_
   ·go_simp
   simp only [Act.put, List.getElem_toArray, List.getElem_cons_zero, List.getElem_cons_succ, List.setIfInBounds_toArray, List.set_cons_zero, List.set_cons_succ]
   refine wpAnyH_take (i := 33) (v := .bool true) rfl (by kernel_rfl) (by kernel_rfl) (by kernel_rfl) (fun _ _ _ h => h) (Or.inl ⟨by rfl, fun w hSw => ?_⟩) hC6 ?_
   ·go_simp
   simp only [Act.put, List.getElem_toArray, List.getElem_cons_zero, List.getElem_cons_succ, List.setIfInBounds_toArray, List.set_cons_zero, List.set_cons_succ]
   refine wpAnyH_take (i := 34) (v := .bool true) rfl (by kernel_rfl) (by kernel_rfl) (by kernel_rfl) (fun _ _ _ h => h) (Or.inl ⟨by rfl, fun w hSw => ?_⟩) hC6 ?_
   ·go_simp
   simp only [Act.put, List.getElem_toArray, List.getElem_cons_zero, List.getElem_cons_succ, List.setIfInBounds_toArray, List.set_cons_zero, List.set_cons_succ]
   refine wpAnyH_take (i := 35) (v := .bool true) rfl (by kernel_rfl) (by kernel_rfl) (by kernel_rfl) (fun _ _ _ h => h) (Or.inl ⟨by rfl, fun w hSw => ?_⟩) hC6 ?_
   ·go_simp
   simp only [Act.put, List.getElem_toArray, List.getElem_cons_zero, List.getElem_cons_succ, List.setIfInBounds_toArray, List.set_cons_zero, List.set_cons_succ]
   refine wpAnyH_done (by kernel_rfl) ?_ _
   have HE := Lib.hid (HBt.out _ hC6)
   go_wp2_with fail
   go_ret
   exact ⟨rfl, HE.out⟩
  ·skip
   obtain rfl : j = 3 := by simpa using hj
   refine Or.inl ?_
   have hC2 := hT.alloc _ (.cells #[.slice none 0 0, .slice none 0 0, .int .i64 0, .int .i64 0, .slice none 0 0, .slice none 0 0, .bool false, .slice none 0 0, .slice none 0 0, .int .i64 0, .int .i64 0, .slice none 0 0, .slice none 0 0, .bool false, .slice none 0 0, .slice none 0 0, .int .i64 0, .int .i64 0, .slice none 0 0, .slice none 0 0, .bool false] 43) hC1
   have Hv8 := Lib.hid (mk3_reps x1)
   have hb0 : Below x1.heap.size x1 (x1.alloc (.cells #[.slice none 0 0, .slice none 0 0, .int .i64 0, .int .i64 0, .slice none 0 0, .slice none 0 0, .bool false, .slice none 0 0, .slice none 0 0, .int .i64 0, .int .i64 0, .slice none 0 0, .slice none 0 0, .bool false, .slice none 0 0, .slice none 0 0, .int .i64 0, .int .i64 0, .slice none 0 0, .slice none 0 0, .bool false] 43)) := (Below.refl _ _).alloc (Nat.le_refl _) _
   go_wp2_with fail
   clear hb0
   generalize x1.heap.size = D8 at *
   generalize x1.alloc (.cells #[.slice none 0 0, .slice none 0 0, .int .i64 0, .int .i64 0, .slice none 0 0, .slice none 0 0, .bool false, .slice none 0 0, .slice none 0 0, .int .i64 0, .int .i64 0, .slice none 0 0, .slice none 0 0, .bool false, .slice none 0 0, .slice none 0 0, .int .i64 0, .int .i64 0, .slice none 0 0, .slice none 0 0, .bool false] 43) = x2 at *
   go_simp
   refine wpAnyH_take (i := 4) (v := .agg #[.slice (some ⟨D8, 0, none⟩) 3 3]) rfl (by kernel_rfl) (by kernel_rfl) (by kernel_rfl) (fun _ _ _ h => h) (Or.inl ⟨by rfl, fun w hSw => ?_⟩) hC2 ?_
   ·go_simp
   simp only [Act.put, List.getElem_toArray, List.getElem_cons_zero, List.getElem_cons_succ, List.setIfInBounds_toArray, List.set_cons_zero, List.set_cons_succ]
   refine wpAnyH_all (rs := [2]) (by kernel_rfl) (by simp) (fun j hj => ?_)
   obtain rfl : j = 2 := by simpa using hj
   refine Or.inl ?_
   go_wp2_with fail
   refine (cluNew_any _).mono ?_
   rintro e x22 ⟨v7, rfl, hv7, hb0⟩
   obtain ⟨a7, c7, hs7⟩ := hv7.vshape
   replace hs7 : v7 = .slice a7 3 c7 := hs7
   subst hs7
   have hC3 := hTn _ _ hC2 hb0
   replace Hv8 := Lib.hid (Hv8.out.below hb0)
   have Hv7 := Lib.hid hv7
   clear hv7 hb0
   generalize x22 = x3 at *
   go_simp
   refine wpAnyH_all (rs := [5]) (by kernel_rfl) (by simp) (fun j hj => ?_)
   obtain rfl : j = 5 := by simpa using hj
   refine Or.inl ?_
   have HS := Lib.hid (sameCluster_any [rep0, rep0, rep0] [rep0, rep0, rep0] _ _ _ _ x3 Hv7.out Hv8.out)
   rw [(sameClu_iff _ _).2 rfl] at HS
   go_wp2_with fail
   refine (HS.out).mono ?_
   rintro e x23 ⟨rfl, hb0⟩
   have hC4 := hTn _ _ hC3 hb0
   clear hb0
   generalize x23 = x4 at *
   go_simp
   refine wpAnyH_take (i := 6) (v := .bool true) rfl (by kernel_rfl) (by kernel_rfl) (by kernel_rfl) (fun _ _ _ h => h) (Or.inl ⟨by rfl, fun w hSw => ?_⟩) hC4 ?_
   ·go_simp
   simp only [Act.put, List.getElem_toArray, List.getElem_cons_zero, List.getElem_cons_succ, List.setIfInBounds_toArray, List.set_cons_zero, List.set_cons_succ]
   refine wpAnyH_take (i := 7) (v := .bool true) rfl (by kernel_rfl) (by kernel_rfl) (by kernel_rfl) (fun _ _ _ h => h) (Or.inl ⟨by rfl, fun w hSw => ?_⟩) hC4 ?_
   ·go_simp
   simp only [Act.put, List.getElem_toArray, List.getElem_cons_zero, List.getElem_cons_succ, List.setIfInBounds_toArray, List.set_cons_zero, List.set_cons_succ]
   refine wpAnyH_take (i := 8) (v := .agg #[.slice a l.length cap]) rfl (by kernel_rfl) (by kernel_rfl) (by kernel_rfl) (fun _ _ _ h => h) (Or.inl ⟨by rfl, fun w hSw => ?_⟩) hC4 ?_
   ·have yy := tc _ hSw; go_simp
   simp only [Act.put, List.getElem_toArray, List.getElem_cons_zero, List.getElem_cons_succ, List.setIfInBounds_toArray, List.set_cons_zero, List.set_cons_succ]
   refine wpAnyH_take (i := 10) (v := .int .i64 (0)) rfl (by kernel_rfl) (by kernel_rfl) (by kernel_rfl) (fun _ _ _ h => h) (Or.inl ⟨by rfl, fun w hSw => ?_⟩) hC4 ?_
   ·go_simp
   simp only [Act.put, List.getElem_toArray, List.getElem_cons_zero, List.getElem_cons_succ, List.setIfInBounds_toArray, List.set_cons_zero, List.set_cons_succ]
   refine wpAnyH_all (rs := [9]) (by kernel_rfl) (by simp) (fun j hj => ?_)
   obtain rfl : j = 9 := by simpa using hj
   refine Or.inl ?_
   go_wp2_with fail
   refine (HCk2.out _ hC4).mono ?_
   rintro e x24 ⟨rfl, hb0⟩
   have hC5 := hTn _ _ hC4 hb0
   clear hb0
   generalize x24 = x5 at *
   go_simp
   refine wpAnyH_take (i := 11) (v := .bool true) rfl (by kernel_rfl) (by kernel_rfl) (by kernel_rfl) (fun _ _ _ h => h) (Or.inl ⟨by rfl, fun w hSw => ?_⟩) hC5 ?_
   ·go_simp
   simp only [Act.put, List.getElem_toArray, List.getElem_cons_zero, List.getElem_cons_succ, List.setIfInBounds_toArray, List.set_cons_zero, List.set_cons_succ]
   refine wpAnyH_take (i := 12) (v := .bool true) rfl (by kernel_rfl) (by kernel_rfl) (by kernel_rfl) (fun _ _ _ h => h) (Or.inl ⟨by rfl, fun w hSw => ?_⟩) hC5 ?_
   ·go_simp
   simp only [Act.put, List.getElem_toArray, List.getElem_cons_zero, List.getElem_cons_succ, List.setIfInBounds_toArray, List.set_cons_zero, List.set_cons_succ]
   refine wpAnyH_take (i := 13) (v := .bool true) rfl (by kernel_rfl) (by kernel_rfl) (by kernel_rfl) (fun _ _ _ h => h) (Or.inl ⟨by rfl, fun w hSw => ?_⟩) hC5 ?_
   ·go_simp
   simp only [Act.put, List.getElem_toArray, List.getElem_cons_zero, List.getElem_cons_succ, List.setIfInBounds_toArray, List.set_cons_zero, List.set_cons_succ]
   refine wpAnyH_take (i := 14) (v := .agg #[.slice a1 pl.length c1]) rfl (by kernel_rfl) (by kernel_rfl) (by kernel_rfl) (fun _ _ _ h => h) (Or.inl ⟨by rfl, fun w hSw => ?_⟩) hC5 ?_
   ·have yy := tA _ hSw; go_simp
   simp only [Act.put, List.getElem_toArray, List.getElem_cons_zero, List.getElem_cons_succ, List.setIfInBounds_toArray, List.set_cons_zero, List.set_cons_succ]
   refine wpAnyH_take (i := 15) (v := .int .i64 (pe)) rfl (by kernel_rfl) (by kernel_rfl) (by kernel_rfl) (fun _ _ _ h => h) (Or.inl ⟨by rfl, fun w hSw => ?_⟩) hC5 ?_
   ·go_simp
   simp only [Act.put, List.getElem_toArray, List.getElem_cons_zero, List.getElem_cons_succ, List.setIfInBounds_toArray, List.set_cons_zero, List.set_cons_succ]
   refine wpAnyH_take (i := 16) (v := .int .i64 (pe)) rfl (by kernel_rfl) (by kernel_rfl) (by kernel_rfl) (fun _ _ _ h => h) (Or.inl ⟨by rfl, fun w hSw => ?_⟩) hC5 ?_
   ·go_simp
   simp only [Act.put, List.getElem_toArray, List.getElem_cons_zero, List.getElem_cons_succ, List.setIfInBounds_toArray, List.set_cons_zero, List.set_cons_succ]
   refine wpAnyH_take (i := 17) (v := .agg #[.slice a6 pl.length c6]) rfl (by kernel_rfl) (by kernel_rfl) (by kernel_rfl) (fun _ _ _ h => h) (Or.inl ⟨by rfl, fun w hSw => ?_⟩) hC5 ?_
   ·have yy := tW _ hSw; go_simp
   simp only [Act.put, List.getElem_toArray, List.getElem_cons_zero, List.getElem_cons_succ, List.setIfInBounds_toArray, List.set_cons_zero, List.set_cons_succ]
   refine wpAnyH_all (rs := [18]) (by kernel_rfl) (by simp) (fun j hj => ?_)
   obtain rfl : j = 18 := by simpa using hj
   refine Or.inl ?_
   have HS := Lib.hid (clusterIs_any pl pl pe pe _ _ _ _ x5 (HvT.out.below (hTb _ hC5)) (HwT.out.below (hTb _ hC5)))
   rw [HIs.out] at HS
   go_wp2_with fail
   refine (HS.out).mono ?_
   rintro e x25 ⟨rfl, hb0⟩
   have hC6 := hTn _ _ hC5 hb0
   clear hb0
   generalize x25 = x6 at *
   go_simp
   refine wpAnyH_take (i := 19) (v := .bool true) rfl (by kernel_rfl) (by kernel_rfl) (by kernel_rfl) (fun _ _ _ h => h) (Or.inl ⟨by rfl, fun w hSw => ?_⟩) hC6 ?_
   ·go_simp
   simp only [Act.put, List.getElem_toArray, List.getElem_cons_zero, List.getElem_cons_succ, List.setIfInBounds_toArray, List.set_cons_zero, List.set_cons_succ]
   refine wpAnyH_take (i := 20) (v := .bool true) rfl (by kernel_rfl) (by kernel_rfl) (by kernel_rfl) (fun _ _ _ h => h) (Or.inl ⟨by rfl, fun w hSw => ?_⟩) hC6 ?_
   ·go_simp
   simp only [Act.put, List.getElem_toArray, List.getElem_cons_zero, List.getElem_cons_succ, List.setIfInBounds_toArray, List.set_cons_zero, List.set_cons_succ]
   refine wpAnyH_take (i := 21) (v := .bool (pd)) rfl (by kernel_rfl) (by kernel_rfl) (by kernel_rfl) (fun _ _ _ h => h) (Or.inl ⟨by rfl, fun w hSw => ?_⟩) hC6 ?_
   ·go_simp
   simp only [Act.put, List.getElem_toArray, List.getElem_cons_zero, List.getElem_cons_succ, List.setIfInBounds_toArray, List.set_cons_zero, List.set_cons_succ]
   refine wpAnyH_take (i := 22) (v := .bool (pd)) rfl (by kernel_rfl) (by kernel_rfl) (by kernel_rfl) (fun _ _ _ h => h) (Or.inl ⟨by rfl, fun w hSw => ?_⟩) hC6 ?_
   ·go_simp
   simp only [Act.put, List.getElem_toArray, List.getElem_cons_zero, List.getElem_cons_succ, List.setIfInBounds_toArray, List.set_cons_zero, List.set_cons_succ]
   refine wpAnyH_take (i := 23) (v := .bool true) rfl (by kernel_rfl) (by kernel_rfl) (by kernel_rfl) (fun _ _ _ h => h) (Or.inl ⟨by rfl, fun w hSw => ?_⟩) hC6 ?_
   ·go_simp
   simp only [Act.put, List.getElem_toArray, List.getElem_cons_zero, List.getElem_cons_succ, List.setIfInBounds_toArray, List.set_cons_zero, List.set_cons_succ]
   refine wpAnyH_take (i := 24) (v := .bool true) rfl (by kernel_rfl) (by kernel_rfl) (by kernel_rfl) (fun _ _ _ h => h) (Or.inl ⟨by rfl, fun w hSw => ?_⟩) hC6 ?_
   ·go_simp
   simp only [Act.put, List.getElem_toArray, List.getElem_cons_zero, List.getElem_cons_succ, List.setIfInBounds_toArray, List.set_cons_zero, List.set_cons_succ]
   refine wpAnyH_take (i := 25) (v := .bool true) rfl (by kernel_rfl) (by kernel_rfl) (by kernel_rfl) (fun _ _ _ h => h) (Or.inl ⟨by rfl, fun w hSw => ?_⟩) hC6 ?_
   ·go_simp
   simp only [Act.put, List.getElem_toArray, List.getElem_cons_zero, List.getElem_cons_succ, List.setIfInBounds_toArray, List.set_cons_zero, List.set_cons_succ]
   refine wpAnyH_take (i := 26) (v := .int .i64 (0)) rfl (by kernel_rfl) (by kernel_rfl) (by kernel_rfl) (fun _ _ _ h => h) (Or.inl ⟨by rfl, fun w hSw => ?_⟩) hC6 ?_
   ·go_simp
   simp only [Act.put, List.getElem_toArray, List.getElem_cons_zero, List.getElem_cons_succ, List.setIfInBounds_toArray, List.set_cons_zero, List.set_cons_succ]
   refine wpAnyH_take (i := 27) (v := .int .i64 (0)) rfl (by kernel_rfl) (by kernel_rfl) (by kernel_rfl) (fun _ _ _ h => h) (Or.inl ⟨by rfl, fun w hSw => ?_⟩) hC6 ?_
   ·go_simp
   simp only [Act.put, List.getElem_toArray, List.getElem_cons_zero, List.getElem_cons_succ, List.setIfInBounds_toArray, List.set_cons_zero, List.set_cons_succ]
   refine wpAnyH_take (i := 28) (v := .bool true) rfl (by kernel_rfl) (by kernel_rfl) (by kernel_rfl) (fun _ _ _ h => h) (Or.inl ⟨by rfl, fun w hSw => ?_⟩) hC6 ?_
   ·go_simp
   simp only [Act.put, List.getElem_toArray, List.getElem_cons_zero, List.getElem_cons_succ, List.setIfInBounds_toArray, List.set_cons_zero, List.set_cons_succ]
   refine wpAnyH_take (i := 29) (v := .bool true) rfl (by kernel_rfl) (by kernel_rfl) (by kernel_rfl) (fun _ _ _ h => h) (Or.inl ⟨by rfl, fun w hSw => ?_⟩) hC6 ?_
   ·go_simp
   simp only [Act.put, List.getElem_toArray, List.getElem_cons_zero, List.getElem_cons_succ, List.setIfInBounds_toArray, List.set_cons_zero, List.set_cons_succ]
   refine wpAnyH_take (i := 30) (v := .bool true) rfl (by kernel_rfl) (by kernel_rfl) (by kernel_rfl) (fun _ _ _ h => h) (Or.inl ⟨by rfl, fun w hSw => ?_⟩) hC6 ?_
   ·go_simp
   simp only [Act.put, List.getElem_toArray, List.getElem_cons_zero, List.getElem_cons_succ, List.setIfInBounds_toArray, List.set_cons_zero, List.set_cons_succ]
   refine wpAnyH_take (i := 31) (v := .int .i64 ((bl : Int))) rfl (by kernel_rfl) (by kernel_rfl) (by kernel_rfl) (fun _ _ _ h => h) (Or.inl ⟨by rfl, fun w hSw => ?_⟩) hC6 ?_
   ·go_simp
   simp only [Act.put, List.getElem_toArray, List.getElem_cons_zero, List.getElem_cons_succ, List.setIfInBounds_toArray, List.set_cons_zero, List.set_cons_succ]
   refine wpAnyH_take (i := 32) (v := .int .i64 ((bl : Int))) rfl (by kernel_rfl) (by kernel_rfl) (by kernel_rfl) (fun _ _ _ h => h) (Or.inl ⟨by rfl, fun w hSw => ?_⟩) hC6 ?_
   ·go_simp
   simp only [Act.put, List.getElem_toArray, List.getElem_cons_zero, List.getElem_cons_succ, List.setIfInBounds_toArray, List.set_cons_zero, List.set_cons_succ]
   refine wpAnyH_take (i := 33) (v := .bool true) rfl (by kernel_rfl) (by kernel_rfl) (by kernel_rfl) (fun _ _ _ h => h) (Or.inl ⟨by rfl, fun w hSw => ?_⟩) hC6 ?_
   ·go_simp
   simp only [Act.put, List.getElem_toArray, List.getElem_cons_zero, List.getElem_cons_succ, List.setIfInBounds_toArray, List.set_cons_zero, List.set_cons_succ]
   refine wpAnyH_take (i := 34) (v := .bool true) rfl (by kernel_rfl) (by kernel_rfl) (by kernel_rfl) (fun _ _ _ h => h) (Or.inl ⟨by rfl, fun w hSw => ?_⟩) hC6 ?_
   ·go_simp
   simp only [Act.put, List.getElem_toArray, List.getElem_cons_zero, List.getElem_cons_succ, List.setIfInBounds_toArray, List.set_cons_zero, List.set_cons_succ]
   refine wpAnyH_take (i := 35) (v := .bool true) rfl (by kernel_rfl) (by kernel_rfl) (by kernel_rfl) (fun _ _ _ h => h) (Or.inl ⟨by rfl, fun w hSw => ?_⟩) hC6 ?_
   ·go_simp
   simp only [Act.put, List.getElem_toArray, List.getElem_cons_zero, List.getElem_cons_succ, List.setIfInBounds_toArray, List.set_cons_zero, List.set_cons_succ]
   refine wpAnyH_done (by kernel_rfl) ?_ _
   have HE := Lib.hid (HBt.out _ hC6)
   go_wp2_with fail
   go_ret
   exact ⟨rfl, HE.out⟩
end Go.Proofs.YtgkbalhkjolnmaaGreatDoor
