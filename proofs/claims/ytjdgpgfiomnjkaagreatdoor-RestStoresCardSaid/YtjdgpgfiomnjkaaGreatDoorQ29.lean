
/- StepF: walk of replicaBegun. -/
import Derived.Test.YtjdgpgfiomnjkaaGreatDoorQ28
import Derived.Test.YtjdgpgfiomnjkaaGreatDoorQ20
import Derived.Test.YtjdgpgfiomnjkaaGreatDoorQ27
import Derived.Test.YtjdgpgfiomnjkaaGreatDoorQ18
import Derived.Test.YtjdgpgfiomnjkaaGreatDoorQ16
import Derived.Deep.RegionHeld3
namespace Go.Proofs.YtjdgpgfiomnjkaaGreatDoor
open Go.RowKit
set_option linter.unusedVariables false
set_option linter.unusedSimpArgs false
set_option linter.unusedSectionVars false
variable [Ghost]
theorem rb1 : prepE hostR comeP = 0 := by decide +kernel
theorem rb2 : tryE hostR comeP = 0 := by decide +kernel
theorem rb3 : voteR hostR comeP = y7 := by
 have h := vb2
 unfold ofS at h
 rw [if_pos vb1] at h; exact h
theorem rb4 : finE (votedR (heldR hostR comeP)) true = 0 := by
 rw [(steps rb1).1, if_neg (by simpa using rb2)]; rfl
theorem rb5 : finR (votedR (heldR hostR comeP)) true = doneR hostR comeP ∧ repCheck (doneR hostR comeP) = 0 := (steps rb1).2 rb2 (by decide)
theorem rb6 : (doneR hostR comeP).store.length = 6 := by decide +kernel
theorem rb7 : finE (heldR hostR comeP) true = 4 := by
 have h := (apart rb1).ca.1
 unfold finE; rw [inE_bad h (by decide)]; rfl
theorem rb8 : inE (heldR hostR comeP) 1 = 0 := (apart rb1).vot.1
set_option maxRecDepth 100000 in
set_option maxHeartbeats 8000000 in
theorem replicaBegun_any (w : World) (ht : Tab w) : Calls Tryz.prog 8 #[] w fun e w' => e = .returned (.bool true) ∧ Below w.heap.size w w' := by
 have HTw := Lib.hid (fun x (hx : Below w.heap.size w x) => ht.below hx)
 clear ht
 go_enter Tryz.func8, Tryz.ntmps8
 go_wp2_with fail
 refine (host_any _).mono ?_
 rintro e u1 ⟨sv1, rv1, ov1, uv1, rfl, hv1, hb1⟩
 have HH := Lib.hid hv1
 obtain ⟨sa1, sc1, rfl⟩ := hv1.store.vshape
 obtain ⟨⟨ra1, rc1⟩, rfl⟩ := hv1.refs.shape
 obtain ⟨oa1, oc1, rfl⟩ := hv1.objs.vshape
 obtain ⟨⟨ua1, uc1⟩, rfl⟩ := hv1.upds.shape
 have HB1 := Lib.hid hb1
 clear hv1 hb1
 simp only [repV]
 go_wp2_with fail
 refine (come_any _).mono ?_
 rintro e u2 ⟨ov2, uv2, rfl, ho2, hu2, hb2⟩
 have HB2 := Lib.hid (below_next HB1.out hb2)
 have HC := Lib.hid (prepare_any hostR comeP _ _ _ _ _ _ _ _ u2 (HH.out.below hb2) ho2 hu2)
 rw [rb1, (apart rb1).a] at HC
 obtain ⟨oa2, oc2, rfl⟩ := ho2.vshape
 obtain ⟨⟨ua2, uc2⟩, rfl⟩ := hu2.shape
 simp only [repV, pshV] at HC ⊢
 clear hb2 HH HB1 ho2 hu2
 generalize hA : heldR hostR comeP = A at *
 go_wp2_with fail
 refine HC.out.mono ?_
 rintro e u3 ⟨sv5, rv5, ov5, uv5, rfl, hv, hb⟩
 obtain ⟨sa5, sc5, rfl⟩ := hv.store.vshape
 obtain ⟨⟨ra5, rc5⟩, rfl⟩ := hv.refs.shape
 obtain ⟨oa5, oc5, rfl⟩ := hv.objs.vshape
 obtain ⟨⟨ua5, uc5⟩, rfl⟩ := hv.upds.shape
 have hbA : Below u3.heap.size u3 (u3.alloc (.cells #[.slice sa5 A.store.length sc5, .slice ra5 A.refs.length rc5, .int .i64 A.gen, .int .i64 A.phase, .slice oa5 A.pend.objects.length oc5, .slice ua5 A.pend.updates.length uc5, .bool A.pend.force] 28)) := (Below.refl _ _).alloc (Nat.le_refl _) _
 have HG3 := Lib.hid (show Bag (fun _ => True) (u3.alloc (.cells #[.slice sa5 A.store.length sc5, .slice ra5 A.refs.length rc5, .int .i64 A.gen, .int .i64 A.phase, .slice oa5 A.pend.objects.length oc5, .slice ua5 A.pend.updates.length uc5, .bool A.pend.force] 28)) [(u3.heap.size, A)] from ⟨⟨_, _, _, _, _, _, _, _, heap_alloc_new u3 _, (hv.below hbA).weaken fun _ _ => trivial⟩, trivial⟩)
 have HB3 := Lib.hid (below_next (below_next HB2.out hb) hbA)
 clear hv hb hbA HC HB2
 simp only [repV]
 have hA1 := hA
 clear hA
 have Vt := Lib.hid (show inE A 1 = 0 ∧ votR A = votedR A ∧ votS A = y7 from by rw [← hA1]; exact ⟨rb8, (apart rb1).vot.2.1, (apart rb1).vot.2.2.trans rb3⟩)
 have Vf := Lib.hid (show finE (votedR A) true = 0 ∧ finR (votedR A) true = doneR hostR comeP from by rw [← hA1]; exact ⟨rb4, rb5.1⟩)
 have Vc := Lib.hid (show repCheck (votedR A) = 0 ∧ craR (votedR A) = hostR from by rw [← hA1]; exact (apart rb1).cb)
 have Vi := Lib.hid (show finE A true = 4 ∧ finR A true = rep0 from by rw [← hA1]; exact ⟨rb7, by unfold finR; rw [rb7]; rfl⟩)
 have Vp := Lib.hid (show A.phase = 1 ∧ (votedR A).phase = 2 from by rw [← hA1]; exact ⟨rfl, rfl⟩)
 generalize hB : votedR A = B at *
 generalize hC : doneR hostR comeP = C at *
 have Vg := Lib.hid (show C.gen = 8 ∧ C.store.length = 6 ∧ repCheck C = 0 from by rw [← hC]; exact ⟨rfl, rb6, rb5.2⟩)
 clear hA1 hB hC
 obtain ⟨sa0, sc0, ra0, rc0, oa0, oc0, ua0, uc0, hbk0, hrd0⟩ := HG3.out.1
 have y0 := block_cell (j := 0) hbk0 rfl
 have y1 := block_cell (j := 1) hbk0 rfl
 have y2 := block_cell (j := 2) hbk0 rfl
 have y3 := block_cell (j := 3) hbk0 rfl
 have y4 := block_cell (j := 4) hbk0 rfl
 have y5 := block_cell (j := 5) hbk0 rfl
 have y6 := block_cell (j := 6) hbk0 rfl
 have HC := Lib.hid (vote_any A _ _ _ _ _ _ hrd0 (HTw.out _ HB3.out))
 rw [Vt.out.1, Vt.out.2.1, Vt.out.2.2] at HC
 simp only [repV] at HC
 clear hbk0 hrd0
 go_wp2_with fail
 refine HC.out.mono ?_
 rintro e u4 ⟨sv5, rv5, ov5, uv5, rfl, hv, hb⟩
 obtain ⟨sa5, sc5, rfl⟩ := hv.store.vshape
 obtain ⟨⟨ra5, rc5⟩, rfl⟩ := hv.refs.shape
 obtain ⟨oa5, oc5, rfl⟩ := hv.objs.vshape
 obtain ⟨⟨ua5, uc5⟩, rfl⟩ := hv.upds.shape
 have hbA : Below u4.heap.size u4 (u4.alloc (.cells #[.slice sa5 B.store.length sc5, .slice ra5 B.refs.length rc5, .int .i64 B.gen, .int .i64 B.phase, .slice oa5 B.pend.objects.length oc5, .slice ua5 B.pend.updates.length uc5, .bool B.pend.force] 28)) := (Below.refl _ _).alloc (Nat.le_refl _) _
 have HG4 := Lib.hid (show Bag (fun _ => True) (u4.alloc (.cells #[.slice sa5 B.store.length sc5, .slice ra5 B.refs.length rc5, .int .i64 B.gen, .int .i64 B.phase, .slice oa5 B.pend.objects.length oc5, .slice ua5 B.pend.updates.length uc5, .bool B.pend.force] 28)) ((u4.heap.size, B) :: _) from ⟨⟨_, _, _, _, _, _, _, _, heap_alloc_new u4 _, (hv.below hbA).weaken fun _ _ => trivial⟩, (HG3.out.below hb).below hbA⟩)
 have HB4 := Lib.hid (below_next (below_next HB3.out hb) hbA)
 clear hv hb hbA HC HB3 HG3 y0 y1 y2 y3 y4 y5 y6
 simp only [repV]
 obtain ⟨sa0, sc0, ra0, rc0, oa0, oc0, ua0, uc0, hbk0, hrd0⟩ := HG4.out.1
 have y0 := block_cell (j := 0) hbk0 rfl
 have y1 := block_cell (j := 1) hbk0 rfl
 have y2 := block_cell (j := 2) hbk0 rfl
 have y3 := block_cell (j := 3) hbk0 rfl
 have y4 := block_cell (j := 4) hbk0 rfl
 have y5 := block_cell (j := 5) hbk0 rfl
 have y6 := block_cell (j := 6) hbk0 rfl
 have HC := Lib.hid (finish_any B true _ _ _ _ _ _ hrd0)
 rw [Vf.out.1, Vf.out.2] at HC
 simp only [repV] at HC
 clear hbk0 hrd0
 go_wp2_with fail
 refine HC.out.mono ?_
 rintro e u5 ⟨sv5, rv5, ov5, uv5, rfl, hv, hb⟩
 obtain ⟨sa5, sc5, rfl⟩ := hv.store.vshape
 obtain ⟨⟨ra5, rc5⟩, rfl⟩ := hv.refs.shape
 obtain ⟨oa5, oc5, rfl⟩ := hv.objs.vshape
 obtain ⟨⟨ua5, uc5⟩, rfl⟩ := hv.upds.shape
 have hbA : Below u5.heap.size u5 (u5.alloc (.cells #[.slice sa5 C.store.length sc5, .slice ra5 C.refs.length rc5, .int .i64 C.gen, .int .i64 C.phase, .slice oa5 C.pend.objects.length oc5, .slice ua5 C.pend.updates.length uc5, .bool C.pend.force] 28)) := (Below.refl _ _).alloc (Nat.le_refl _) _
 have HG5 := Lib.hid (show Bag (fun _ => True) (u5.alloc (.cells #[.slice sa5 C.store.length sc5, .slice ra5 C.refs.length rc5, .int .i64 C.gen, .int .i64 C.phase, .slice oa5 C.pend.objects.length oc5, .slice ua5 C.pend.updates.length uc5, .bool C.pend.force] 28)) ((u5.heap.size, C) :: _) from ⟨⟨_, _, _, _, _, _, _, _, heap_alloc_new u5 _, (hv.below hbA).weaken fun _ _ => trivial⟩, (HG4.out.below hb).below hbA⟩)
 have HB5 := Lib.hid (below_next (below_next HB4.out hb) hbA)
 clear hv hb hbA HC HB4 HG4 y0 y1 y2 y3 y4 y5 y6
 simp only [repV]
 obtain ⟨sa0, sc0, ra0, rc0, oa0, oc0, ua0, uc0, hbk0, hrd0⟩ := HG5.out.2.1
 have y0 := block_cell (j := 0) hbk0 rfl
 have y1 := block_cell (j := 1) hbk0 rfl
 have y2 := block_cell (j := 2) hbk0 rfl
 have y3 := block_cell (j := 3) hbk0 rfl
 have y4 := block_cell (j := 4) hbk0 rfl
 have y5 := block_cell (j := 5) hbk0 rfl
 have y6 := block_cell (j := 6) hbk0 rfl
 have HC := Lib.hid (crash_any B _ _ _ _ _ _ hrd0)
 rw [Vc.out.1, Vc.out.2] at HC
 simp only [repV] at HC
 clear hbk0 hrd0
 go_wp2_with fail
 refine HC.out.mono ?_
 rintro e u6 ⟨sv5, rv5, ov5, uv5, rfl, hv, hb⟩
 obtain ⟨sa5, sc5, rfl⟩ := hv.store.vshape
 obtain ⟨⟨ra5, rc5⟩, rfl⟩ := hv.refs.shape
 obtain ⟨oa5, oc5, rfl⟩ := hv.objs.vshape
 obtain ⟨⟨ua5, uc5⟩, rfl⟩ := hv.upds.shape
 have hbA : Below u6.heap.size u6 (u6.alloc (.cells #[.slice sa5 hostR.store.length sc5, .slice ra5 hostR.refs.length rc5, .int .i64 hostR.gen, .int .i64 hostR.phase, .slice oa5 hostR.pend.objects.length oc5, .slice ua5 hostR.pend.updates.length uc5, .bool hostR.pend.force] 28)) := (Below.refl _ _).alloc (Nat.le_refl _) _
 have HG6 := Lib.hid (show Bag (fun _ => True) (u6.alloc (.cells #[.slice sa5 hostR.store.length sc5, .slice ra5 hostR.refs.length rc5, .int .i64 hostR.gen, .int .i64 hostR.phase, .slice oa5 hostR.pend.objects.length oc5, .slice ua5 hostR.pend.updates.length uc5, .bool hostR.pend.force] 28)) ((u6.heap.size, hostR) :: _) from ⟨⟨_, _, _, _, _, _, _, _, heap_alloc_new u6 _, (hv.below hbA).weaken fun _ _ => trivial⟩, (HG5.out.below hb).below hbA⟩)
 have HB6 := Lib.hid (below_next (below_next HB5.out hb) hbA)
 clear hv hb hbA HC HB5 HG5 y0 y1 y2 y3 y4 y5 y6
 simp only [repV]
 obtain ⟨sa0, sc0, ra0, rc0, oa0, oc0, ua0, uc0, hbk0, hrd0⟩ := HG6.out.2.2.2.1
 have y0 := block_cell (j := 0) hbk0 rfl
 have y1 := block_cell (j := 1) hbk0 rfl
 have y2 := block_cell (j := 2) hbk0 rfl
 have y3 := block_cell (j := 3) hbk0 rfl
 have y4 := block_cell (j := 4) hbk0 rfl
 have y5 := block_cell (j := 5) hbk0 rfl
 have y6 := block_cell (j := 6) hbk0 rfl
 have HC := Lib.hid (finish_any A true _ _ _ _ _ _ hrd0)
 rw [Vi.out.1, Vi.out.2] at HC
 simp only [repV] at HC
 clear hbk0 hrd0
 go_wp2_with fail
 refine HC.out.mono ?_
 rintro e u7 ⟨sv5, rv5, ov5, uv5, rfl, hv, hb⟩
 obtain ⟨sa5, sc5, rfl⟩ := hv.store.vshape
 obtain ⟨⟨ra5, rc5⟩, rfl⟩ := hv.refs.shape
 obtain ⟨oa5, oc5, rfl⟩ := hv.objs.vshape
 obtain ⟨⟨ua5, uc5⟩, rfl⟩ := hv.upds.shape
 have hbA : Below u7.heap.size u7 (u7.alloc (.cells #[.slice sa5 rep0.store.length sc5, .slice ra5 rep0.refs.length rc5, .int .i64 rep0.gen, .int .i64 rep0.phase, .slice oa5 rep0.pend.objects.length oc5, .slice ua5 rep0.pend.updates.length uc5, .bool rep0.pend.force] 28)) := (Below.refl _ _).alloc (Nat.le_refl _) _
 have HG7 := Lib.hid (show Bag (fun _ => True) (u7.alloc (.cells #[.slice sa5 rep0.store.length sc5, .slice ra5 rep0.refs.length rc5, .int .i64 rep0.gen, .int .i64 rep0.phase, .slice oa5 rep0.pend.objects.length oc5, .slice ua5 rep0.pend.updates.length uc5, .bool rep0.pend.force] 28)) ((u7.heap.size, rep0) :: _) from ⟨⟨_, _, _, _, _, _, _, _, heap_alloc_new u7 _, (hv.below hbA).weaken fun _ _ => trivial⟩, (HG6.out.below hb).below hbA⟩)
 have HB7 := Lib.hid (below_next (below_next HB6.out hb) hbA)
 clear hv hb hbA HC HB6 HG6 y0 y1 y2 y3 y4 y5 y6
 simp only [repV]
 go_wp2_with fail
 generalize u3.heap.size = D1 at *
 generalize u4.heap.size = D3 at *
 generalize u5.heap.size = D6 at *
 generalize u6.heap.size = D8 at *
 generalize u7.heap.size = D10 at *
 generalize u7.alloc _ = x7 at *
 obtain ⟨Q, hQ, hQ1, _⟩ := cls_plain x7
 have hQb := hQ.below
 have hQn := hQ.next
 obtain ⟨sah, sch, rah, rch, oah, och, uah, uch, hbkh, hrdh⟩ := HG7.out.2.1
 obtain ⟨sac, scc, rac, rcc, oac, occ, uac, ucc, hbkc, hrdc⟩ := HG7.out.2.2.1
 obtain ⟨sab, scb, rab, rcb, oab, ocb, uab, ucb, hbkb, hrdb⟩ := HG7.out.2.2.2.1
 obtain ⟨saa, sca, raa, rca, oaa, oca, uaa, uca, hbka, hrda⟩ := HG7.out.2.2.2.2.1
 rw [Vp.out.1] at hbka
 rw [Vp.out.2] at hbkb
 rw [Vg.out.1, Vg.out.2.1] at hbkc
 have Kh := Lib.hid (fun x (hx : In Q x) => blk_below hbkh (hQb _ hx))
 have Kc := Lib.hid (fun x (hx : In Q x) => blk_below hbkc (hQb _ hx))
 have Kb := Lib.hid (fun x (hx : In Q x) => blk_below hbkb (hQb _ hx))
 have Ka := Lib.hid (fun x (hx : In Q x) => blk_below hbka (hQb _ hx))
 have Rc := Lib.hid (fun x (hx : In Q x) => RepIs.below hrdc (hQb _ hx))
 have Rh := Lib.hid (fun x (hx : In Q x) => RepIs.below hrdh (hQb _ hx))
 clear hbkh hbkc hbkb hbka hrdh hrdc hrdb hrda HG7
 refine wp_region_held (S := In Q) (by kernel_rfl) ?_
 change wpAnyH _ _ _ _ _ _ _ _ (World.drew _)
 have hC0 := hQ.drew _ hQ1
 generalize x7.drew = x0 at hC0 ⊢
 clear hQ1
 refine wpAnyH_take (i := 0) (v := .agg #[.slice sac 6 scc, .slice rac C.refs.length rcc, .int .i64 8, .int .i64 C.phase, .slice oac C.pend.objects.length occ, .slice uac C.pend.updates.length ucc, .bool C.pend.force]) rfl (by kernel_rfl) (by kernel_rfl) (by kernel_rfl) (fun _ _ _ h => h) (Or.inl ⟨by rfl, fun w hSw => ?_⟩) hC0 ?_
 ·have hbk := Kc.out _ hSw
  have y0 := block_cell (j := 0) hbk rfl
  have y1 := block_cell (j := 1) hbk rfl
  have y2 := block_cell (j := 2) hbk rfl
  have y3 := block_cell (j := 3) hbk rfl
  have y4 := block_cell (j := 4) hbk rfl
  have y5 := block_cell (j := 5) hbk rfl
  have y6 := block_cell (j := 6) hbk rfl
  clear hbk
  go_simp
 simp only [Act.put, List.getElem_toArray, List.getElem_cons_zero, List.getElem_cons_succ, List.setIfInBounds_toArray, List.set_cons_zero, List.set_cons_succ]
 refine wpAnyH_all (rs := [1]) (by kernel_rfl) (by simp) (fun j hj => ?_)
 obtain rfl : j = 1 := by simpa using hj
 refine Or.inl ?_
 have HCk := Lib.hid (repCheck_any C _ _ _ _ _ x0 (Rc.out _ hC0))
 rw [Vg.out.2.2] at HCk
 simp only [repV] at HCk
 rw [Vg.out.1, Vg.out.2.1] at HCk
 go_wp2_with fail
 refine HCk.out.mono ?_
 rintro e x1 ⟨rfl, hb⟩
 have hC1 := hQn _ _ hC0 hb
 clear hb HCk hC0
 go_simp
 have hq7 : (y7.toList == [121, 101, 115, 32, 55, 32, 109, 97, 105, 110, 32, 51, 32, 54, 59]) = true := by decide +kernel
 refine wpAnyH_take (i := 2) (v := .bool true) rfl (by kernel_rfl) (by kernel_rfl) (by kernel_rfl) (fun _ _ _ h => h) (Or.inl ⟨by rfl, fun w hSw => ?_⟩) hC1 ?_
 ·go_simp
 simp only [Act.put, List.getElem_toArray, List.getElem_cons_zero, List.getElem_cons_succ, List.setIfInBounds_toArray, List.set_cons_zero, List.set_cons_succ]
 refine wpAnyH_take (i := 3) (v := .bool true) rfl (by kernel_rfl) (by kernel_rfl) (by kernel_rfl) (fun _ _ _ h => h) (Or.inl ⟨by rfl, fun w hSw => ?_⟩) hC1 ?_
 ·go_simp
 simp only [Act.put, List.getElem_toArray, List.getElem_cons_zero, List.getElem_cons_succ, List.setIfInBounds_toArray, List.set_cons_zero, List.set_cons_succ]
 refine wpAnyH_take (i := 4) (v := .int .i64 0) rfl (by kernel_rfl) (by kernel_rfl) (by kernel_rfl) (fun _ _ _ h => h) (Or.inl ⟨by rfl, fun w hSw => ?_⟩) hC1 ?_
 ·go_simp
 simp only [Act.put, List.getElem_toArray, List.getElem_cons_zero, List.getElem_cons_succ, List.setIfInBounds_toArray, List.set_cons_zero, List.set_cons_succ]
 refine wpAnyH_take (i := 5) (v := .bool true) rfl (by kernel_rfl) (by kernel_rfl) (by kernel_rfl) (fun _ _ _ h => h) (Or.inl ⟨by rfl, fun w hSw => ?_⟩) hC1 ?_
 ·go_simp
 simp only [Act.put, List.getElem_toArray, List.getElem_cons_zero, List.getElem_cons_succ, List.setIfInBounds_toArray, List.set_cons_zero, List.set_cons_succ]
 refine wpAnyH_take (i := 6) (v := .bool true) rfl (by kernel_rfl) (by kernel_rfl) (by kernel_rfl) (fun _ _ _ h => h) (Or.inl ⟨by rfl, fun w hSw => ?_⟩) hC1 ?_
 ·go_simp
 simp only [Act.put, List.getElem_toArray, List.getElem_cons_zero, List.getElem_cons_succ, List.setIfInBounds_toArray, List.set_cons_zero, List.set_cons_succ]
 refine wpAnyH_take (i := 7) (v := .bool true) rfl (by kernel_rfl) (by kernel_rfl) (by kernel_rfl) (fun _ _ _ h => h) (Or.inl ⟨by rfl, fun w hSw => ?_⟩) hC1 ?_
 ·go_simp
 simp only [Act.put, List.getElem_toArray, List.getElem_cons_zero, List.getElem_cons_succ, List.setIfInBounds_toArray, List.set_cons_zero, List.set_cons_succ]
 refine wpAnyH_take (i := 8) (v := .int .i64 0) rfl (by kernel_rfl) (by kernel_rfl) (by kernel_rfl) (fun _ _ _ h => h) (Or.inl ⟨by rfl, fun w hSw => ?_⟩) hC1 ?_
 ·go_simp
 simp only [Act.put, List.getElem_toArray, List.getElem_cons_zero, List.getElem_cons_succ, List.setIfInBounds_toArray, List.set_cons_zero, List.set_cons_succ]
 refine wpAnyH_take (i := 9) (v := .bool true) rfl (by kernel_rfl) (by kernel_rfl) (by kernel_rfl) (fun _ _ _ h => h) (Or.inl ⟨by rfl, fun w hSw => ?_⟩) hC1 ?_
 ·go_simp
 simp only [Act.put, List.getElem_toArray, List.getElem_cons_zero, List.getElem_cons_succ, List.setIfInBounds_toArray, List.set_cons_zero, List.set_cons_succ]
 refine wpAnyH_take (i := 10) (v := .bool true) rfl (by kernel_rfl) (by kernel_rfl) (by kernel_rfl) (fun _ _ _ h => h) (Or.inl ⟨by rfl, fun w hSw => ?_⟩) hC1 ?_
 ·go_simp
 simp only [Act.put, List.getElem_toArray, List.getElem_cons_zero, List.getElem_cons_succ, List.setIfInBounds_toArray, List.set_cons_zero, List.set_cons_succ]
 refine wpAnyH_take (i := 11) (v := .bool true) rfl (by kernel_rfl) (by kernel_rfl) (by kernel_rfl) (fun _ _ _ h => h) (Or.inl ⟨by rfl, fun w hSw => ?_⟩) hC1 ?_
 ·go_simp
 simp only [Act.put, List.getElem_toArray, List.getElem_cons_zero, List.getElem_cons_succ, List.setIfInBounds_toArray, List.set_cons_zero, List.set_cons_succ]
 refine wpAnyH_take (i := 12) (v := .int .i64 0) rfl (by kernel_rfl) (by kernel_rfl) (by kernel_rfl) (fun _ _ _ h => h) (Or.inl ⟨by rfl, fun w hSw => ?_⟩) hC1 ?_
 ·go_simp
 simp only [Act.put, List.getElem_toArray, List.getElem_cons_zero, List.getElem_cons_succ, List.setIfInBounds_toArray, List.set_cons_zero, List.set_cons_succ]
 refine wpAnyH_take (i := 13) (v := .bool true) rfl (by kernel_rfl) (by kernel_rfl) (by kernel_rfl) (fun _ _ _ h => h) (Or.inl ⟨by rfl, fun w hSw => ?_⟩) hC1 ?_
 ·go_simp
 simp only [Act.put, List.getElem_toArray, List.getElem_cons_zero, List.getElem_cons_succ, List.setIfInBounds_toArray, List.set_cons_zero, List.set_cons_succ]
 refine wpAnyH_take (i := 14) (v := .bool true) rfl (by kernel_rfl) (by kernel_rfl) (by kernel_rfl) (fun _ _ _ h => h) (Or.inl ⟨by rfl, fun w hSw => ?_⟩) hC1 ?_
 ·go_simp
 simp only [Act.put, List.getElem_toArray, List.getElem_cons_zero, List.getElem_cons_succ, List.setIfInBounds_toArray, List.set_cons_zero, List.set_cons_succ]
 refine wpAnyH_take (i := 15) (v := .bool true) rfl (by kernel_rfl) (by kernel_rfl) (by kernel_rfl) (fun _ _ _ h => h) (Or.inl ⟨by rfl, fun w hSw => ?_⟩) hC1 ?_
 ·go_simp
 simp only [Act.put, List.getElem_toArray, List.getElem_cons_zero, List.getElem_cons_succ, List.setIfInBounds_toArray, List.set_cons_zero, List.set_cons_succ]
 refine wpAnyH_take (i := 16) (v := .int .i64 0) rfl (by kernel_rfl) (by kernel_rfl) (by kernel_rfl) (fun _ _ _ h => h) (Or.inl ⟨by rfl, fun w hSw => ?_⟩) hC1 ?_
 ·go_simp
 simp only [Act.put, List.getElem_toArray, List.getElem_cons_zero, List.getElem_cons_succ, List.setIfInBounds_toArray, List.set_cons_zero, List.set_cons_succ]
 refine wpAnyH_take (i := 17) (v := .bool true) rfl (by kernel_rfl) (by kernel_rfl) (by kernel_rfl) (fun _ _ _ h => h) (Or.inl ⟨by rfl, fun w hSw => ?_⟩) hC1 ?_
 ·go_simp
 simp only [Act.put, List.getElem_toArray, List.getElem_cons_zero, List.getElem_cons_succ, List.setIfInBounds_toArray, List.set_cons_zero, List.set_cons_succ]
 refine wpAnyH_take (i := 18) (v := .bool true) rfl (by kernel_rfl) (by kernel_rfl) (by kernel_rfl) (fun _ _ _ h => h) (Or.inl ⟨by rfl, fun w hSw => ?_⟩) hC1 ?_
 ·go_simp
 simp only [Act.put, List.getElem_toArray, List.getElem_cons_zero, List.getElem_cons_succ, List.setIfInBounds_toArray, List.set_cons_zero, List.set_cons_succ]
 refine wpAnyH_take (i := 19) (v := .bool true) rfl (by kernel_rfl) (by kernel_rfl) (by kernel_rfl) (fun _ _ _ h => h) (Or.inl ⟨by rfl, fun w hSw => ?_⟩) hC1 ?_
 ·go_simp
 simp only [Act.put, List.getElem_toArray, List.getElem_cons_zero, List.getElem_cons_succ, List.setIfInBounds_toArray, List.set_cons_zero, List.set_cons_succ]
 refine wpAnyH_take (i := 20) (v := .int .i64 4) rfl (by kernel_rfl) (by kernel_rfl) (by kernel_rfl) (fun _ _ _ h => h) (Or.inl ⟨by rfl, fun w hSw => ?_⟩) hC1 ?_
 ·go_simp
 simp only [Act.put, List.getElem_toArray, List.getElem_cons_zero, List.getElem_cons_succ, List.setIfInBounds_toArray, List.set_cons_zero, List.set_cons_succ]
 refine wpAnyH_take (i := 21) (v := .bool true) rfl (by kernel_rfl) (by kernel_rfl) (by kernel_rfl) (fun _ _ _ h => h) (Or.inl ⟨by rfl, fun w hSw => ?_⟩) hC1 ?_
 ·go_simp
 simp only [Act.put, List.getElem_toArray, List.getElem_cons_zero, List.getElem_cons_succ, List.setIfInBounds_toArray, List.set_cons_zero, List.set_cons_succ]
 refine wpAnyH_take (i := 22) (v := .bool true) rfl (by kernel_rfl) (by kernel_rfl) (by kernel_rfl) (fun _ _ _ h => h) (Or.inl ⟨by rfl, fun w hSw => ?_⟩) hC1 ?_
 ·go_simp
 simp only [Act.put, List.getElem_toArray, List.getElem_cons_zero, List.getElem_cons_succ, List.setIfInBounds_toArray, List.set_cons_zero, List.set_cons_succ]
 refine wpAnyH_take (i := 23) (v := .bool true) rfl (by kernel_rfl) (by kernel_rfl) (by kernel_rfl) (fun _ _ _ h => h) (Or.inl ⟨by rfl, fun w hSw => ?_⟩) hC1 ?_
 ·go_simp
 simp only [Act.put, List.getElem_toArray, List.getElem_cons_zero, List.getElem_cons_succ, List.setIfInBounds_toArray, List.set_cons_zero, List.set_cons_succ]
 refine wpAnyH_take (i := 24) (v := .pointer (some ⟨D1, 3, none⟩)) rfl (by kernel_rfl) (by kernel_rfl) (by kernel_rfl) (fun _ _ _ h => h) (Or.inl ⟨by rfl, fun w hSw => ?_⟩) hC1 ?_
 ·go_simp
 simp only [Act.put, List.getElem_toArray, List.getElem_cons_zero, List.getElem_cons_succ, List.setIfInBounds_toArray, List.set_cons_zero, List.set_cons_succ]
 refine wpAnyH_take (i := 25) (v := .int .i64 1) rfl (by kernel_rfl) (by kernel_rfl) (by kernel_rfl) (fun _ _ _ h => h) (Or.inl ⟨by rfl, fun w hSw => ?_⟩) hC1 ?_
 ·have yy := block_cell (j := 3) (Ka.out _ hSw) rfl; go_simp
 simp only [Act.put, List.getElem_toArray, List.getElem_cons_zero, List.getElem_cons_succ, List.setIfInBounds_toArray, List.set_cons_zero, List.set_cons_succ]
 refine wpAnyH_take (i := 26) (v := .bool true) rfl (by kernel_rfl) (by kernel_rfl) (by kernel_rfl) (fun _ _ _ h => h) (Or.inl ⟨by rfl, fun w hSw => ?_⟩) hC1 ?_
 ·go_simp
 simp only [Act.put, List.getElem_toArray, List.getElem_cons_zero, List.getElem_cons_succ, List.setIfInBounds_toArray, List.set_cons_zero, List.set_cons_succ]
 refine wpAnyH_take (i := 27) (v := .bool true) rfl (by kernel_rfl) (by kernel_rfl) (by kernel_rfl) (fun _ _ _ h => h) (Or.inl ⟨by rfl, fun w hSw => ?_⟩) hC1 ?_
 ·go_simp
 simp only [Act.put, List.getElem_toArray, List.getElem_cons_zero, List.getElem_cons_succ, List.setIfInBounds_toArray, List.set_cons_zero, List.set_cons_succ]
 refine wpAnyH_take (i := 28) (v := .bool true) rfl (by kernel_rfl) (by kernel_rfl) (by kernel_rfl) (fun _ _ _ h => h) (Or.inl ⟨by rfl, fun w hSw => ?_⟩) hC1 ?_
 ·go_simp
 simp only [Act.put, List.getElem_toArray, List.getElem_cons_zero, List.getElem_cons_succ, List.setIfInBounds_toArray, List.set_cons_zero, List.set_cons_succ]
 refine wpAnyH_take (i := 29) (v := .pointer (some ⟨D3, 3, none⟩)) rfl (by kernel_rfl) (by kernel_rfl) (by kernel_rfl) (fun _ _ _ h => h) (Or.inl ⟨by rfl, fun w hSw => ?_⟩) hC1 ?_
 ·go_simp
 simp only [Act.put, List.getElem_toArray, List.getElem_cons_zero, List.getElem_cons_succ, List.setIfInBounds_toArray, List.set_cons_zero, List.set_cons_succ]
 refine wpAnyH_take (i := 30) (v := .int .i64 2) rfl (by kernel_rfl) (by kernel_rfl) (by kernel_rfl) (fun _ _ _ h => h) (Or.inl ⟨by rfl, fun w hSw => ?_⟩) hC1 ?_
 ·have yy := block_cell (j := 3) (Kb.out _ hSw) rfl; go_simp
 simp only [Act.put, List.getElem_toArray, List.getElem_cons_zero, List.getElem_cons_succ, List.setIfInBounds_toArray, List.set_cons_zero, List.set_cons_succ]
 refine wpAnyH_take (i := 31) (v := .bool true) rfl (by kernel_rfl) (by kernel_rfl) (by kernel_rfl) (fun _ _ _ h => h) (Or.inl ⟨by rfl, fun w hSw => ?_⟩) hC1 ?_
 ·go_simp
 simp only [Act.put, List.getElem_toArray, List.getElem_cons_zero, List.getElem_cons_succ, List.setIfInBounds_toArray, List.set_cons_zero, List.set_cons_succ]
 refine wpAnyH_take (i := 32) (v := .bool true) rfl (by kernel_rfl) (by kernel_rfl) (by kernel_rfl) (fun _ _ _ h => h) (Or.inl ⟨by rfl, fun w hSw => ?_⟩) hC1 ?_
 ·go_simp
 simp only [Act.put, List.getElem_toArray, List.getElem_cons_zero, List.getElem_cons_succ, List.setIfInBounds_toArray, List.set_cons_zero, List.set_cons_succ]
 refine wpAnyH_take (i := 33) (v := .bool true) rfl (by kernel_rfl) (by kernel_rfl) (by kernel_rfl) (fun _ _ _ h => h) (Or.inl ⟨by rfl, fun w hSw => ?_⟩) hC1 ?_
 ·go_simp
 simp only [Act.put, List.getElem_toArray, List.getElem_cons_zero, List.getElem_cons_succ, List.setIfInBounds_toArray, List.set_cons_zero, List.set_cons_succ]
 refine wpAnyH_take (i := 34) (v := .string y7) rfl (by kernel_rfl) (by kernel_rfl) (by kernel_rfl) (fun _ _ _ h => h) (Or.inl ⟨by rfl, fun w hSw => ?_⟩) hC1 ?_
 ·go_simp
 simp only [Act.put, List.getElem_toArray, List.getElem_cons_zero, List.getElem_cons_succ, List.setIfInBounds_toArray, List.set_cons_zero, List.set_cons_succ]
 refine wpAnyH_take (i := 35) (v := .bool true) rfl (by kernel_rfl) (by kernel_rfl) (by kernel_rfl) (fun _ _ _ h => h) (Or.inl ⟨by rfl, fun w hSw => ?_⟩) hC1 ?_
 ·have yy := hq7; go_simp
 simp only [Act.put, List.getElem_toArray, List.getElem_cons_zero, List.getElem_cons_succ, List.setIfInBounds_toArray, List.set_cons_zero, List.set_cons_succ]
 refine wpAnyH_take (i := 36) (v := .bool true) rfl (by kernel_rfl) (by kernel_rfl) (by kernel_rfl) (fun _ _ _ h => h) (Or.inl ⟨by rfl, fun w hSw => ?_⟩) hC1 ?_
 ·go_simp
 simp only [Act.put, List.getElem_toArray, List.getElem_cons_zero, List.getElem_cons_succ, List.setIfInBounds_toArray, List.set_cons_zero, List.set_cons_succ]
 refine wpAnyH_take (i := 37) (v := .bool true) rfl (by kernel_rfl) (by kernel_rfl) (by kernel_rfl) (fun _ _ _ h => h) (Or.inl ⟨by rfl, fun w hSw => ?_⟩) hC1 ?_
 ·go_simp
 simp only [Act.put, List.getElem_toArray, List.getElem_cons_zero, List.getElem_cons_succ, List.setIfInBounds_toArray, List.set_cons_zero, List.set_cons_succ]
 refine wpAnyH_take (i := 38) (v := .pointer (some ⟨D6, 2, none⟩)) rfl (by kernel_rfl) (by kernel_rfl) (by kernel_rfl) (fun _ _ _ h => h) (Or.inl ⟨by rfl, fun w hSw => ?_⟩) hC1 ?_
 ·go_simp
 simp only [Act.put, List.getElem_toArray, List.getElem_cons_zero, List.getElem_cons_succ, List.setIfInBounds_toArray, List.set_cons_zero, List.set_cons_succ]
 refine wpAnyH_take (i := 39) (v := .int .i64 8) rfl (by kernel_rfl) (by kernel_rfl) (by kernel_rfl) (fun _ _ _ h => h) (Or.inl ⟨by rfl, fun w hSw => ?_⟩) hC1 ?_
 ·have yy := block_cell (j := 2) (Kc.out _ hSw) rfl; go_simp
 simp only [Act.put, List.getElem_toArray, List.getElem_cons_zero, List.getElem_cons_succ, List.setIfInBounds_toArray, List.set_cons_zero, List.set_cons_succ]
 refine wpAnyH_take (i := 40) (v := .bool true) rfl (by kernel_rfl) (by kernel_rfl) (by kernel_rfl) (fun _ _ _ h => h) (Or.inl ⟨by rfl, fun w hSw => ?_⟩) hC1 ?_
 ·go_simp
 simp only [Act.put, List.getElem_toArray, List.getElem_cons_zero, List.getElem_cons_succ, List.setIfInBounds_toArray, List.set_cons_zero, List.set_cons_succ]
 refine wpAnyH_take (i := 41) (v := .bool true) rfl (by kernel_rfl) (by kernel_rfl) (by kernel_rfl) (fun _ _ _ h => h) (Or.inl ⟨by rfl, fun w hSw => ?_⟩) hC1 ?_
 ·go_simp
 simp only [Act.put, List.getElem_toArray, List.getElem_cons_zero, List.getElem_cons_succ, List.setIfInBounds_toArray, List.set_cons_zero, List.set_cons_succ]
 refine wpAnyH_take (i := 42) (v := .bool true) rfl (by kernel_rfl) (by kernel_rfl) (by kernel_rfl) (fun _ _ _ h => h) (Or.inl ⟨by rfl, fun w hSw => ?_⟩) hC1 ?_
 ·go_simp
 simp only [Act.put, List.getElem_toArray, List.getElem_cons_zero, List.getElem_cons_succ, List.setIfInBounds_toArray, List.set_cons_zero, List.set_cons_succ]
 refine wpAnyH_take (i := 43) (v := .pointer (some ⟨D6, 0, none⟩)) rfl (by kernel_rfl) (by kernel_rfl) (by kernel_rfl) (fun _ _ _ h => h) (Or.inl ⟨by rfl, fun w hSw => ?_⟩) hC1 ?_
 ·go_simp
 simp only [Act.put, List.getElem_toArray, List.getElem_cons_zero, List.getElem_cons_succ, List.setIfInBounds_toArray, List.set_cons_zero, List.set_cons_succ]
 refine wpAnyH_take (i := 44) (v := .slice sac 6 scc) rfl (by kernel_rfl) (by kernel_rfl) (by kernel_rfl) (fun _ _ _ h => h) (Or.inl ⟨by rfl, fun w hSw => ?_⟩) hC1 ?_
 ·have yy := block_cell (j := 0) (Kc.out _ hSw) rfl; go_simp
 simp only [Act.put, List.getElem_toArray, List.getElem_cons_zero, List.getElem_cons_succ, List.setIfInBounds_toArray, List.set_cons_zero, List.set_cons_succ]
 refine wpAnyH_take (i := 45) (v := .int .i64 6) rfl (by kernel_rfl) (by kernel_rfl) (by kernel_rfl) (fun _ _ _ h => h) (Or.inl ⟨by rfl, fun w hSw => ?_⟩) hC1 ?_
 ·go_simp
 simp only [Act.put, List.getElem_toArray, List.getElem_cons_zero, List.getElem_cons_succ, List.setIfInBounds_toArray, List.set_cons_zero, List.set_cons_succ]
 refine wpAnyH_take (i := 46) (v := .bool true) rfl (by kernel_rfl) (by kernel_rfl) (by kernel_rfl) (fun _ _ _ h => h) (Or.inl ⟨by rfl, fun w hSw => ?_⟩) hC1 ?_
 ·go_simp
 simp only [Act.put, List.getElem_toArray, List.getElem_cons_zero, List.getElem_cons_succ, List.setIfInBounds_toArray, List.set_cons_zero, List.set_cons_succ]
 refine wpAnyH_take (i := 47) (v := .bool true) rfl (by kernel_rfl) (by kernel_rfl) (by kernel_rfl) (fun _ _ _ h => h) (Or.inl ⟨by rfl, fun w hSw => ?_⟩) hC1 ?_
 ·go_simp
 simp only [Act.put, List.getElem_toArray, List.getElem_cons_zero, List.getElem_cons_succ, List.setIfInBounds_toArray, List.set_cons_zero, List.set_cons_succ]
 refine wpAnyH_take (i := 48) (v := .bool true) rfl (by kernel_rfl) (by kernel_rfl) (by kernel_rfl) (fun _ _ _ h => h) (Or.inl ⟨by rfl, fun w hSw => ?_⟩) hC1 ?_
 ·go_simp
 simp only [Act.put, List.getElem_toArray, List.getElem_cons_zero, List.getElem_cons_succ, List.setIfInBounds_toArray, List.set_cons_zero, List.set_cons_succ]
 refine wpAnyH_take (i := 49) (v := .agg #[.slice sah hostR.store.length sch, .slice rah hostR.refs.length rch, .int .i64 hostR.gen, .int .i64 hostR.phase, .slice oah hostR.pend.objects.length och, .slice uah hostR.pend.updates.length uch, .bool hostR.pend.force]) rfl (by kernel_rfl) (by kernel_rfl) (by kernel_rfl) (fun _ _ _ h => h) (Or.inl ⟨by rfl, fun w hSw => ?_⟩) hC1 ?_
 ·have hbk := Kh.out _ hSw
  have y0 := block_cell (j := 0) hbk rfl
  have y1 := block_cell (j := 1) hbk rfl
  have y2 := block_cell (j := 2) hbk rfl
  have y3 := block_cell (j := 3) hbk rfl
  have y4 := block_cell (j := 4) hbk rfl
  have y5 := block_cell (j := 5) hbk rfl
  have y6 := block_cell (j := 6) hbk rfl
  clear hbk
  go_simp
 simp only [Act.put, List.getElem_toArray, List.getElem_cons_zero, List.getElem_cons_succ, List.setIfInBounds_toArray, List.set_cons_zero, List.set_cons_succ]
 refine wpAnyH_all (rs := [50]) (by kernel_rfl) (by simp) (fun j hj => ?_)
 obtain rfl : j = 50 := by simpa using hj
 refine Or.inl ?_
 go_wp2_with fail
 refine (host_any _).mono ?_
 rintro e x2 ⟨svt, rvt, ovt, uvt, rfl, hv, hb⟩
 obtain ⟨sa9, sc9, rfl⟩ := hv.store.vshape
 obtain ⟨⟨ra9, rc9⟩, rfl⟩ := hv.refs.shape
 obtain ⟨oa9, oc9, rfl⟩ := hv.objs.vshape
 obtain ⟨⟨ua9, uc9⟩, rfl⟩ := hv.upds.shape
 have hC2 := hQn _ _ hC1 hb
 have Hh := Lib.hid hv
 clear hv hb
 simp only [repV]
 go_simp
 refine wpAnyH_all (rs := [51]) (by kernel_rfl) (by simp) (fun j hj => ?_)
 obtain rfl : j = 51 := by simpa using hj
 refine Or.inl ?_
 have HSm := Lib.hid (sameReplica_any hostR hostR _ _ _ _ _ _ _ _ _ _ x2 (Rh.out _ hC2) Hh.out)
 rw [(sameRep_iff _ _).2 rfl] at HSm
 simp only [repV] at HSm
 go_wp2_with fail
 refine HSm.out.mono ?_
 rintro e x3 ⟨rfl, hb⟩
 have hC3 := hQn _ _ hC2 hb
 clear hb HSm Hh
 go_simp
 refine wpAnyH_take (i := 52) (v := .bool true) rfl (by kernel_rfl) (by kernel_rfl) (by kernel_rfl) (fun _ _ _ h => h) (Or.inl ⟨by rfl, fun w hSw => ?_⟩) hC3 ?_
 ·go_simp
 simp only [Act.put, List.getElem_toArray, List.getElem_cons_zero, List.getElem_cons_succ, List.setIfInBounds_toArray, List.set_cons_zero, List.set_cons_succ]
 refine wpAnyH_all (rs := [53]) (by kernel_rfl) (by simp) (fun j hj => ?_)
 obtain rfl : j = 53 := by simpa using hj
 refine Or.inl ?_
 go_wp2_with fail
 first | refine ⟨hC3, ?_⟩ | skip
 first | refine ⟨by kernel_rfl, ?_⟩ | refine wpAnyH_done (by kernel_rfl) ?_ _
 have HEnd := Lib.hid (below_next HB7.out (hQb _ hC3))
 go_wp2_with fail
 go_ret
 exact ⟨rfl, HEnd.out⟩
end Go.Proofs.YtjdgpgfiomnjkaaGreatDoor
namespace Go.Proofs.YtjdgpgfiomnjkaaGreatDoor
open Go.RowKit
set_option linter.unusedVariables false
set_option linter.unusedSimpArgs false
set_option linter.unusedSectionVars false
variable [Ghost]
theorem GathS.push {B : Nat} {w w1 : World} {v v' : Value} {l : List Obj} {o : Obj} {lv : Value} {S S2 : Nat → Prop} {ob : Go.Obj} {lvs : Nat → Value}
  (h1 : ∀ b, S b → b < w.heap.size ∧ v.ownBlock ≠ some b) (h3 : ∀ i, i < l.length → ObjIs S w (obj l i) (lvs i))
  (ho : ObjIs S2 w o lv) (h2 : ∀ b, S2 b → b < w.heap.size ∧ v.ownBlock ≠ some b)
  (hown : w1.ownsRow B 46 4 v' (l.length + 1) (flat (fun i => objCells (obj l i) (lvs i)) l.length ++ objCells o lv)) (hgrow : (w.alloc ob).grownBy w1 v.ownBlock)
  (hat : v'.ownBlock = v.ownBlock ∨ v'.ownBlock = some (w.heap.size + 1)) : GathS (fun b => S b ∨ S2 b) B w1 v' (l ++ [o]) := by
 have hu : Upd (fun b => v.ownBlock = some b) w w1 := Upd.grown ((Upd.refl _ _).alloc ob) hgrow (fun k hk _ => hk)
 refine ⟨fun i => if i < l.length then lvs i else lv, fun b hb => ?_, ?_, fun i hi => ?_⟩
 ·have hb' : b < w.heap.size ∧ v.ownBlock ≠ some b := by rcases hb with hb | hb; exact h1 b hb; exact h2 b hb
  refine ⟨Nat.lt_of_lt_of_le hb'.1 hu.size, ?_⟩
  rcases hat with h | h
  ·rw [h]; exact hb'.2
  ·rw [h]; intro e; cases e; omega
 ·rw [List.length_append, List.length_singleton, flat]
  have e1 : flat (fun i => objCells (obj (l ++ [o]) i) (if i < l.length then lvs i else lv)) l.length = flat (fun i => objCells (obj l i) (lvs i)) l.length :=
   flat_congr fun i hi => by rw [obj_snoc_lt hi, if_pos hi]
  rw [e1, obj_snoc_eq]
  simp only [Nat.lt_irrefl, if_false]
  exact hown
 ·rw [List.length_append, List.length_singleton] at hi
  by_cases hl : i < l.length
  ·simp only [obj_snoc_lt hl, if_pos hl]
   exact ((h3 i hl).upd hu (fun b hb h => (h1 b hb).2 h)).weaken fun _ h => .inl h
  ·have : i = l.length := by omega
   subst this
   simp only [obj_snoc_eq, if_neg hl]
   exact (ho.upd hu (fun b hb h => (h2 b hb).2 h)).weaken fun _ h => .inr h
theorem append_objS {B : Nat} {w : World} {v : Value} {l : List Obj} {p : Obj} {lv : Value} {S S2 : Nat → Prop} (ty : TypeId) (hG : GathS S B w v l) (hp : ObjIs S2 w p lv)
  (h2 : ∀ b, S2 b → b < w.heap.size ∧ v.ownBlock ≠ some b) (hl : (l.length + 1) * 56 ≤ 140737488351232) (hB : B ≤ w.heap.size) :
  ∃ a c x, (Builtin.append_ #[22, 22] ty #[v, .slice (some ⟨w.heap.size, 0, none⟩) 1 1]).run Tryz.prog (w.alloc (.cells #[.int .i64 p.id, .int .i64 p.kind, lv, .string p.text] 46)) = .ok (.slice a (l.length + 1) c) x ∧
   GathS (fun b => S b ∨ S2 b) B x (.slice a (l.length + 1) c) (l ++ [p]) ∧ Upd (fun b => v.ownBlock = some b) w x ∧ ((Value.slice a (l.length + 1) c).ownBlock = v.ownBlock ∨ ∃ k, (Value.slice a (l.length + 1) c).ownBlock = some k ∧ w.heap.size ≤ k) := by
 obtain ⟨lvs, h1, hown, h3⟩ := hG
 obtain ⟨i0, hi, hz0, hz1, hz2⟩ := info_parts Tryz.infoObj
 obtain ⟨g, c, x, hr, ho, hg, hor, hlt⟩ := run_append_lies (P := Tryz.prog) (w.alloc (.cells #[.int .i64 p.id, .int .i64 p.kind, lv, .string p.text] 46)) 22 ty B 46 i0 _ 4 56 Tryz.underlying22 hi hz0 hz1 hz2 rfl (by omega) v l.length _ (hown.alloc _) ⟨w.heap.size, 0, none⟩ 1 1 (objCells p lv) rfl
  (World.news_of_block (cs := #[.int .i64 p.id, .int .i64 p.kind, lv, .string p.text]) (t := 46) (fr := (0, 0)) (heap_alloc_new w _)) (one_cells hp) (by omega) (by unfold maxLen; omega) (by omega) (by simp; omega) _ rfl
 have hat : (Value.slice (some ⟨g, 0, none⟩) (l.length + 1) c).ownBlock = v.ownBlock ∨ (Value.slice (some ⟨g, 0, none⟩) (l.length + 1) c).ownBlock = some (w.heap.size + 1) := by
  rcases hor with h | h
  ·exact .inl h.symm
  ·right; rw [h]; simp [Value.ownBlock]
 refine ⟨_, c, x, hr, GathS.push h1 h3 hp h2 ho hg hat, Upd.grown ((Upd.refl _ _).alloc _) hg (fun k hk _ => hk), ?_⟩
 rcases hat with h | h
 ·exact .inl h
 ·exact .inr ⟨_, h, by omega⟩
def OutAt (B J : Nat) (w : World) (l : List Obj) : Prop :=
 ∃ v S, GathS S B w v l ∧ (∀ b, S b → b ≠ J ∧ B ≤ b) ∧ v.ownBlock ≠ some J ∧ w.heap[J]? = some (.cells #[v] 22 (0, 0))
theorem OutAt.below {B J : Nat} {w w' : World} {l : List Obj} (h : OutAt B J w l) (hb : Below w.heap.size w w') : OutAt B J w' l := by
 obtain ⟨v, S, h1, h2, h3, h4⟩ := h
 exact ⟨v, S, h1.below hb, h2, h3, (hb.block _ (lt_of_block h4)).trans h4⟩
theorem OutAt.lt {B J : Nat} {w : World} {l : List Obj} (h : OutAt B J w l) : J < w.heap.size := let ⟨_, _, _, _, _, h4⟩ := h; lt_of_block h4
theorem outAt_new (w : World) (B : Nat) : OutAt B w.heap.size (w.alloc (.cells #[.slice none 0 0] 22)) [] :=
 ⟨.slice none 0 0, fun _ => False, ⟨fun _ => .nilFunc, fun _ h => h.elim, World.ownsRow_nil _ _ _ _, fun i hi => by simp at hi⟩, fun _ h => h.elim, by simp [Value.ownBlock], heap_alloc_new w _⟩
theorem out_end {B J : Nat} {w x0 xo w9 : World} {v v' : Value} {m : List Obj} {S : Nat → Prop} (hB : B ≤ J) (hJw : J < w.heap.size) (hSJ : ∀ b, S b → b ≠ J ∧ B ≤ b) (hvJ : v.ownBlock ≠ some J) (hcJ : w.heap[J]? = some (.cells #[v] 22 (0, 0)))
  (hb0 : Below w.heap.size w x0) (hb : Below w.heap.size w xo) (hvB : ∀ g, v.ownBlock = some g → B ≤ g) (hG : GathS (fun b => S b ∨ (x0.heap.size ≤ b ∧ b < xo.heap.size)) B w9 v' m) (hu : Upd (fun b => v.ownBlock = some b) xo w9) (hat : v'.ownBlock = v.ownBlock ∨ ∃ k, v'.ownBlock = some k ∧ xo.heap.size ≤ k) :
  OutAt B J (w9.setCell ⟨J, 0, none⟩ v') m ∧ Below B w (w9.setCell ⟨J, 0, none⟩ v') := by
 have h0 := hb0.size
 have h1 := hb.size
 have hJ9 : w9.heap[J]? = some (.cells #[v] 22 (0, 0)) := hu.blk ((hb.block _ hJw).trans hcJ) hvJ
 have hu2 : Upd (fun b => b = J) w9 (w9.setCell ⟨J, 0, none⟩ v') := (Upd.refl (fun b => b = J) w9).setCell (p := ⟨J, 0, none⟩) (fun _ => rfl) _
 have hv' : v'.ownBlock ≠ some J := by
  rcases hat with h | ⟨k, h, hk⟩
  ·rw [h]; exact hvJ
  ·rw [h]; intro e; cases e; omega
 refine ⟨⟨v', _, hG.upd hu2 (fun b hb' e => ?_) (fun g hg e => hv' (by rw [hg, e])), fun b hb' => ?_, hv', block_setCell (j := 0) hJ9 v'⟩, ?_⟩
 ·rcases hb' with h | h
  ·exact (hSJ b h).1 e
  ·omega
 ·rcases hb' with h | h
  ·exact hSJ b h
  ·exact ⟨by omega, by omega⟩
 ·exact (hb.mono (by omega)).trans ((hu.below (by omega) hvB).trans (hu2.below (B := B) (by have := hu.size; omega) (fun b e => by omega)))
def missE (m : List Obj) (o : Obj) : Int := if isAt m o.id = true ∧ sameObj o (obj m (lo m o.id)) = false then 6 else 0
def missO (l m : List Obj) (o : Obj) : List Obj := if isAt m o.id = true then l else l ++ [o]
set_option maxRecDepth 100000 in
set_option maxHeartbeats 4000000 in
theorem raw1_any {B J T : Nat} {l m : List Obj} {w : World} (hJ : OutAt B J w l) (tv : Value) (hT : w.heap[T]? = some (.cells #[tv] 22 (0, 0))) (S1 : Nat → Prop) (hm : StoreV S1 w tv m) (hr : Rising m) (o : Obj) (lv : Value) (S2 : Nat → Prop) (ho : ObjIs S2 w o lv) (hl : l.length ≤ 900) (hB : B ≤ J) :
  Calls Tryz.prog 144 #[.agg #[.int .i64 o.id, .int .i64 o.kind, lv, .string o.text], .pointer (some ⟨T, 0, none⟩), .pointer (some ⟨J, 0, none⟩)] w
   fun e w' => e = .returned (.int .i64 (missE m o)) ∧ Below B w w' ∧ OutAt B J w' (missO l m o) := by
 have hJ' := hJ
 obtain ⟨v, S, hG, hSJ, hvJ, hcJ⟩ := hJ
 obtain ⟨va, vc, rfl⟩ := hG.gath.shape
 obtain ⟨⟨lp, lc⟩, rfl⟩ := ho.1.shape
 obtain ⟨ta, tc, rfl⟩ := hm.vshape
 have hJw := lt_of_block hcJ
 have hTw := lt_of_block hT
 obtain ⟨Q, hQ, hQ1, y0, y1, y2, y3⟩ := cls_box4 w (.int .i64 o.id) (.int .i64 o.kind) (.slice lp o.links.length lc) (.string o.text) 46
 have hQb := hQ.below
 have hQn := hQ.next
 have hQg := cls_grown hQ
 have cJ := fun x (hx : In Q x) => block_cell (w := x) (j := 0) ((hQb x hx).block _ hJw |>.trans hcJ) rfl
 have cT := fun x (hx : In Q x) => block_cell (w := x) (j := 0) ((hQb x hx).block _ hTw |>.trans hT) rfl
 have Hat := Lib.hid (fun x (hx : In Q x) => at_any m _ _ o.id x (hm.below (hQb _ hx)) hr)
 cases hat : isAt m o.id
 ·have HjL := Lib.hid (show missO l m o = l ++ [o] by unfold missO; rw [if_neg (by simp [hat])])
  have HjE := Lib.hid (show missE m o = 0 by unfold missE; simp [hat])
  rw [HjL.out, HjE.out]
  rw [hat] at Hat
  have Ho := Lib.hid ho
  have HG := Lib.hid hG
  have HSJ := Lib.hid hSJ
  have HcJ := Lib.hid hcJ
  clear hJ' hr ho hG hSJ hcJ hm hT
  generalize lo m o.id = k at *
  go_enter Tryz.func144, Tryz.ntmps144
  go_wp2_with fail
  refine (Hat.out _ hQ1).mono ?_
  rintro e w5 ⟨rfl, hb5⟩
  have hQ2 := hQn _ _ hQ1 hb5
  clear hb5
  go_wp2_with fail
  have hQd := hQ.drew _ hQ2
  refine any_start (by kernel_rfl) rfl ?_
  generalize w5.drew = x0 at *
  have HQn := Lib.hid hQn
  have HQa := Lib.hid hQ.alloc
  have hQ0 := hQd
  clear hQd
  have z0 := y0 _ hQ0
  have z1 := y1 _ hQ0
  have z2 := y2 _ hQ0
  have z3 := y3 _ hQ0
  have zJ := cJ _ hQ0
  have hown := own_any o _ S2 x0 (Ho.out.below (hQb _ hQ0))
  refine any_two 0 1 (by kernel_rfl) (op_do rfl (by rfl) (fun K hK => ?_)) (op_do rfl (by rfl) (fun K hK => ?_))
  ·go_wp2_with fail
   refine any_one 1 (by kernel_rfl) rfl (by rfl) (fun K hK => ?_)
   go_wp2_with fail
   refine any_one 2 (by kernel_rfl) rfl (by rfl) (fun K hK => ?_)
   go_wp2_with fail
   refine hown.mono ?_
   rintro e xo ⟨lo, rfl, hoo, hbo⟩
   obtain ⟨⟨lop, loc⟩, rfl⟩ := hoo.1.shape
   have hQo := HQn.out _ _ hQ0 hbo
   have zJo := cJ _ hQo
   have zJo2 := cJ _ (HQa.out _ (.cells #[.int .i64 o.id, .int .i64 o.kind, .slice lop o.links.length loc, .string o.text] 46) hQo)
   go_wp2_with fail
   refine any_one 3 (by kernel_rfl) rfl (by rfl) (fun K hK => ?_)
   go_wp2_with fail
   obtain ⟨va9, vc9, w9, hr9, hG9, hu9, hat9⟩ := append_objS 22 (HG.out.below (hQb _ hQo)) hoo.lt (fun b hb => ⟨hb.2, fun e => by have h1 := (HG.out.gath.block e).2; have h2 := (hQb _ hQ0).size; omega⟩) (by omega) (show B ≤ xo.heap.size by have := (hQb _ hQo).size; omega)
   have Hend := Lib.hid (out_end hB hJw HSJ.out hvJ HcJ.out (hQb _ hQ0) (hQb _ hQo) (fun g hg => (HG.out.gath.block hg).1) hG9 hu9 hat9)
   have hJ9 : w9.heap[J]? = some (.cells #[_] 22 (0, 0)) := hu9.blk (((hQb _ hQo).block _ hJw).trans HcJ.out) hvJ
   have cJ9 := block_cell (j := 0) hJ9 rfl
   have fJ9 := block_free (j := 0) hJ9
   clear hG9 hu9 hat9 hJ9
   refine any_one 4 (by kernel_rfl) rfl (by rfl) (fun K hK => ?_)
   refine wp_append_run (.tmp 17) (.tmp 20) 22 (by rfl) _ _ _ (by rfl) (by rfl) hr9 ?_
   refine hK _ _ ?_
   clear hr9
   refine any_one 5 (by kernel_rfl) rfl (by rfl) (fun K hK => ?_)
   go_wp2_with fail
   refine any_done (by kernel_rfl) ?_
   go_wp2_with fail
   go_ret
   exact ⟨rfl, Hend.out.2, Hend.out.1⟩
  ·go_wp2_with fail
   refine any_two 0 2 (by kernel_rfl) (op_do rfl (by rfl) (fun K hK => ?_)) (op_do rfl (by rfl) (fun K hK => ?_))
   ·go_wp2_with fail
    refine any_one 2 (by kernel_rfl) rfl (by rfl) (fun K hK => ?_)
    go_wp2_with fail
    refine hown.mono ?_
    rintro e xo ⟨lo, rfl, hoo, hbo⟩
    obtain ⟨⟨lop, loc⟩, rfl⟩ := hoo.1.shape
    have hQo := HQn.out _ _ hQ0 hbo
    have zJo := cJ _ hQo
    have zJo2 := cJ _ (HQa.out _ (.cells #[.int .i64 o.id, .int .i64 o.kind, .slice lop o.links.length loc, .string o.text] 46) hQo)
    go_wp2_with fail
    refine any_one 3 (by kernel_rfl) rfl (by rfl) (fun K hK => ?_)
    go_wp2_with fail
    obtain ⟨va9, vc9, w9, hr9, hG9, hu9, hat9⟩ := append_objS 22 (HG.out.below (hQb _ hQo)) hoo.lt (fun b hb => ⟨hb.2, fun e => by have h1 := (HG.out.gath.block e).2; have h2 := (hQb _ hQ0).size; omega⟩) (by omega) (show B ≤ xo.heap.size by have := (hQb _ hQo).size; omega)
    have Hend := Lib.hid (out_end hB hJw HSJ.out hvJ HcJ.out (hQb _ hQ0) (hQb _ hQo) (fun g hg => (HG.out.gath.block hg).1) hG9 hu9 hat9)
    have hJ9 : w9.heap[J]? = some (.cells #[_] 22 (0, 0)) := hu9.blk (((hQb _ hQo).block _ hJw).trans HcJ.out) hvJ
    have cJ9 := block_cell (j := 0) hJ9 rfl
    have fJ9 := block_free (j := 0) hJ9
    clear hG9 hu9 hat9 hJ9
    refine any_one 4 (by kernel_rfl) rfl (by rfl) (fun K hK => ?_)
    refine wp_append_run (.tmp 17) (.tmp 20) 22 (by rfl) _ _ _ (by rfl) (by rfl) hr9 ?_
    refine hK _ _ ?_
    clear hr9
    refine any_one 5 (by kernel_rfl) rfl (by rfl) (fun K hK => ?_)
    go_wp2_with fail
    refine any_done (by kernel_rfl) ?_
    go_wp2_with fail
    go_ret
    exact ⟨rfl, Hend.out.2, Hend.out.1⟩
   ·go_wp2_with fail
    refine hown.mono ?_
    rintro e xo ⟨lo, rfl, hoo, hbo⟩
    obtain ⟨⟨lop, loc⟩, rfl⟩ := hoo.1.shape
    have hQo := HQn.out _ _ hQ0 hbo
    have zJo := cJ _ hQo
    have zJo2 := cJ _ (HQa.out _ (.cells #[.int .i64 o.id, .int .i64 o.kind, .slice lop o.links.length loc, .string o.text] 46) hQo)
    go_wp2_with fail
    refine any_two 0 3 (by kernel_rfl) (op_do rfl (by rfl) (fun K hK => ?_)) (op_do rfl (by rfl) (fun K hK => ?_))
    ·go_wp2_with fail
     refine any_one 3 (by kernel_rfl) rfl (by rfl) (fun K hK => ?_)
     go_wp2_with fail
     obtain ⟨va9, vc9, w9, hr9, hG9, hu9, hat9⟩ := append_objS 22 (HG.out.below (hQb _ hQo)) hoo.lt (fun b hb => ⟨hb.2, fun e => by have h1 := (HG.out.gath.block e).2; have h2 := (hQb _ hQ0).size; omega⟩) (by omega) (show B ≤ xo.heap.size by have := (hQb _ hQo).size; omega)
     have Hend := Lib.hid (out_end hB hJw HSJ.out hvJ HcJ.out (hQb _ hQ0) (hQb _ hQo) (fun g hg => (HG.out.gath.block hg).1) hG9 hu9 hat9)
     have hJ9 : w9.heap[J]? = some (.cells #[_] 22 (0, 0)) := hu9.blk (((hQb _ hQo).block _ hJw).trans HcJ.out) hvJ
     have cJ9 := block_cell (j := 0) hJ9 rfl
     have fJ9 := block_free (j := 0) hJ9
     clear hG9 hu9 hat9 hJ9
     refine any_one 4 (by kernel_rfl) rfl (by rfl) (fun K hK => ?_)
     refine wp_append_run (.tmp 17) (.tmp 20) 22 (by rfl) _ _ _ (by rfl) (by rfl) hr9 ?_
     refine hK _ _ ?_
     clear hr9
     refine any_one 5 (by kernel_rfl) rfl (by rfl) (fun K hK => ?_)
     go_wp2_with fail
     refine any_done (by kernel_rfl) ?_
     go_wp2_with fail
     go_ret
     exact ⟨rfl, Hend.out.2, Hend.out.1⟩
    ·go_wp2_with fail
     refine any_one 0 (by kernel_rfl) rfl (by rfl) (fun K hK => ?_)
     go_wp2_with fail
     obtain ⟨va9, vc9, w9, hr9, hG9, hu9, hat9⟩ := append_objS 22 (HG.out.below (hQb _ hQo)) hoo.lt (fun b hb => ⟨hb.2, fun e => by have h1 := (HG.out.gath.block e).2; have h2 := (hQb _ hQ0).size; omega⟩) (by omega) (show B ≤ xo.heap.size by have := (hQb _ hQo).size; omega)
     have Hend := Lib.hid (out_end hB hJw HSJ.out hvJ HcJ.out (hQb _ hQ0) (hQb _ hQo) (fun g hg => (HG.out.gath.block hg).1) hG9 hu9 hat9)
     have hJ9 : w9.heap[J]? = some (.cells #[_] 22 (0, 0)) := hu9.blk (((hQb _ hQo).block _ hJw).trans HcJ.out) hvJ
     have cJ9 := block_cell (j := 0) hJ9 rfl
     have fJ9 := block_free (j := 0) hJ9
     clear hG9 hu9 hat9 hJ9
     refine any_one 4 (by kernel_rfl) rfl (by rfl) (fun K hK => ?_)
     refine wp_append_run (.tmp 17) (.tmp 20) 22 (by rfl) _ _ _ (by rfl) (by rfl) hr9 ?_
     refine hK _ _ ?_
     clear hr9
     refine any_one 5 (by kernel_rfl) rfl (by rfl) (fun K hK => ?_)
     go_wp2_with fail
     refine any_done (by kernel_rfl) ?_
     go_wp2_with fail
     go_ret
     exact ⟨rfl, Hend.out.2, Hend.out.1⟩
 ·have HjL := Lib.hid (show missO l m o = l by unfold missO; rw [if_pos hat])
  have hk : lo m o.id < m.length := by unfold isAt at hat; simp at hat; exact hat.1
  have HjE := Lib.hid (show missE m o = if sameObj o (obj m (lo m o.id)) = false then 6 else 0 by unfold missE; simp [hat])
  rw [HjL.out]
  obtain ⟨a5, n5, c5, la5, ln5, lc5, HN5, e5, _, _, _, h45, h55⟩ := hm.open
  cases e5
  obtain ⟨b, off, rfl, _, k0, k1, k2, k3⟩ := h45 (by omega)
  have Hs := Lib.hid (fun x (hx : In Q x) => same_any o (obj m (lo m o.id)) _ _ _ _ x (ho.below (hQb _ hx)) ((h55 _ hk).below (hQb _ hx)))
  rw [hat] at Hat
  generalize lo m o.id = k at *
  have x0 := fun x (hx : In Q x) => k0 k x hk (hQb x hx)
  have x1 := fun x (hx : In Q x) => k1 k x hk (hQb x hx)
  have x2 := fun x (hx : In Q x) => k2 k x hk (hQb x hx)
  have x3 := fun x (hx : In Q x) => k3 k x hk (hQb x hx)
  have HJ := Lib.hid (fun x (hx : In Q x) => And.intro ((hQb x hx).mono (show B ≤ w.heap.size by omega)) (hJ'.below (hQb x hx)))
  have hi1 : (0 : Int) ≤ (k : Int) := by omega
  have hi2 : (k : Int) < (m.length : Int) := by omega
  clear k0 k1 k2 k3 h45 h55 hG hSJ hvJ hcJ hJ' hr HN5 ho hT hm
  rw [HjE.out]
  have Hend := Lib.hid (fun x (hx : In Q x) => HJ.out x hx)
  cases hs : sameObj o (obj m k)
  case' false => rw [hs] at Hs
  case' true => rw [hs] at Hs
  all_goals
   go_enter Tryz.func144, Tryz.ntmps144
   go_wp2_with fail
   refine (Hat.out _ hQ1).mono ?_
   rintro e w5 ⟨rfl, hb5⟩
   have hQ2 := hQn _ _ hQ1 hb5
   clear hb5
   go_wp2_with fail
   refine wp_region_quiet_below (by kernel_rfl) (by kernel_rfl) ?_
   repeat (quiet_step (exact Calls.regrown_of (Hs.out _ (hQg _ _ _ hQ2))))
   refine wpQuiet_nil ?_
   intro _ hw'
   obtain ⟨⟨dq, osq⟩, hw''⟩ := hw'
   subst hw''
   have hQ3 := hQg _ dq osq hQ2
   generalize Go.Sort.grow (redrawn _ dq) osq = w6 at *
   go_wp2_with fail
   go_ret
   exact ⟨rfl, (Hend.out _ hQ3).1, (Hend.out _ hQ3).2⟩
end Go.Proofs.YtjdgpgfiomnjkaaGreatDoor
namespace Go.Proofs.YtjdgpgfiomnjkaaGreatDoor
open Go.RowKit
set_option linter.unusedVariables false
set_option linter.unusedSimpArgs false
set_option linter.unusedSectionVars false
variable [Ghost]
structure DoesC (g : Nat) (c1 c2 : Value) (l : List Obj) (w0 : World) (I : Nat → World → Prop) (err : Nat → Int) : Prop where
 enter : ∀ args w, (callFunc g args).run Tryz.prog w = .ok (.enter g args) w
 below : ∀ k x, I k x → Below w0.heap.size w0 x
 next : ∀ k x y, I k x → Below x.heap.size x y → I k y
 step : ∀ k x (lv : Value) (S : Nat → Prop), k < l.length → scan err k = 0 → I k x → ObjIs S x (obj l k) lv →
  Calls Tryz.prog g #[.agg #[.int .i64 (obj l k).id, .int .i64 (obj l k).kind, lv, .string (obj l k).text], c1, c2] x fun e w' => e = .returned (.int .i64 (err k)) ∧ Below w0.heap.size w0 w' ∧ (err k = 0 → I (k + 1) w')
set_option maxRecDepth 100000 in
set_option maxHeartbeats 2000000 in
theorem eachC_any {g : Nat} {c1 c2 : Value} {l : List Obj} {w0 w : World} {I : Nat → World → Prop} {err : Nat → Int} (hd : DoesC g c1 c2 l w0 I err) (lv : Value) (S : Nat → Prop) (h : StoreV S w0 lv l) (h0 : I 0 w) :
  Calls Tryz.prog 81 #[lv, .func (.func g) #[] #[c1, c2]] w fun e w' => e = .returned (.int .i64 (scan err l.length)) ∧ Below w0.heap.size w0 w' ∧ (scan err l.length = 0 → I l.length w') := by
 have h' := h
 obtain ⟨a, n, cap, la, ln, lc, HN, rfl, h1, h2, h3, h4, h5⟩ := h.open
 have eg := hd.enter
 have Hd := Lib.hid hd
 have Hn := Lib.hid HN.out.1
 rw [← Hn.out]
 clear h hd
 go_enter Tryz.func81, Tryz.ntmps81
 go_wp2_with fail
 go_loopw [10] (fun i wr => ∃ k : Nat, k ≤ n ∧ i = .int .i64 k ∧ Hid (scan err k = 0) ∧ Hid (I k wr)) (fun i _ => n - (intOf i).toNat)
 case atStart => exact ⟨0, by omega, rfl, rfl, h0⟩
 case round =>
  obtain ⟨k, hk, rfl, Hs, HI⟩ := hrel
  clear h0
  have hRw := Hd.out.below _ _ HI.out
  by_cases hlt : k < n
  ·obtain ⟨b, off, rfl, hb, k0, k1, k2, k3⟩ := h4 (by omega)
   have x0 := k0 k wr hlt hRw
   have x1 := k1 k wr hlt hRw
   have x2 := k2 k wr hlt hRw
   have x3 := k3 k wr hlt hRw
   obtain ⟨Q, hQ, hQ1, y0, y1, y2, y3⟩ := cls_box4 wr (.int .i64 (obj l k).id) (.int .i64 (obj l k).kind) (.slice (la k) (ln k) (lc k)) (.string (obj l k).text) 46
   have Hc := Lib.hid (Hd.out.step k _ _ S (by rw [← Hn.out]; exact hlt) Hs.out (Hd.out.next _ _ _ HI.out (hQ.below _ hQ1)) ((h5 k hlt).below (below_next hRw (hQ.below _ hQ1))))
   have z0 := y0 _ hQ1
   have z1 := y1 _ hQ1
   have z2 := y2 _ hQ1
   have z3 := y3 _ hQ1
   have hi1 : (0 : Int) ≤ (k : Int) := by omega
   have hi2 : (k : Int) < (n : Int) := by omega
   clear k0 k1 k2 k3 h4 h5 y0 y1 y2 y3
   by_cases he : err k = 0
   ·have hq : (err k != 0) = false := by simpa using he
    have Hs2 := Lib.hid (show scan err (k + 1) = 0 from scan_next Hs.out he)
    have He := Lib.hid he
    clear he
    go_wp2_with fail
    refine Hc.out.mono ?_
    rintro e w' ⟨rfl, hb2, hI2⟩
    have HI2 := Lib.hid (hI2 He.out)
    clear hI2 hb2
    go_wp2_with fail
    go_roundw
    case rel => exact ⟨k + 1, by omega, by go_num, Hs2, HI2⟩
    case measure => simp [intOf]; omega
   ·have hq : (err k != 0) = true := by simpa using he
    have Hs2 := Lib.hid (show scan err n = err k from scan_hit Hs.out he hlt)
    have He := Lib.hid he
    clear he
    go_wp2_with fail
    refine Hc.out.mono ?_
    rintro e w' ⟨rfl, hb2, hI2⟩
    clear hI2
    go_wp2_with fail
    go_ret
    exact ⟨ret_int Hs2.out.symm, hb2, fun h => absurd (Hs2.out.symm.trans h) He.out⟩
  ·obtain rfl : k = n := by omega
   go_wp2_with fail
   go_ret
   exact ⟨ret_int Hs.out.symm, hRw, fun _ => HI.out⟩
theorem missTo_next {l m : List Obj} {k : Nat} (hk : k < l.length) : missTo l m (k + 1) = missO (missTo l m k) m (obj l k) := by
 unfold missO
 by_cases h : isAt m (obj l k).id = true
 ·rw [if_pos h, missTo_there hk h]
 ·rw [if_neg h, missTo_not hk (by simpa using h)]
set_option maxRecDepth 100000 in
theorem miss_does {l m : List Obj} (hr : Rising m) (hl : l.length ≤ 800) {w0 : World} {J T : Nat} (hJ : w0.heap.size ≤ J) {tv : Value} (hT : w0.heap[T]? = some (.cells #[tv] 22 (0, 0))) {S1 : Nat → Prop} (hm : StoreV S1 w0 tv m) :
  DoesC 144 (.pointer (some ⟨T, 0, none⟩)) (.pointer (some ⟨J, 0, none⟩)) l w0 (fun k x => Below w0.heap.size w0 x ∧ OutAt w0.heap.size J x (missTo l m k)) (missErr l m) where
 enter := fun _ _ => rfl
 below := fun k x h => h.1
 next := fun k x y h hb => ⟨below_next h.1 hb, h.2.below hb⟩
 step := fun k x lv S hk hs hI ho => by
  have h1 := raw1_any hI.2 tv ((hI.1.block _ (lt_of_block hT)).trans hT) S1 (hm.below hI.1) hr (obj l k) lv S ho (by have := missTo_length l m k; omega) hJ
  refine h1.mono ?_
  rintro e w' ⟨rfl, hb, hO⟩
  have hb2 : Below w0.heap.size w0 w' := hI.1.trans hb
  exact ⟨rfl, hb2, fun _ => ⟨hb2, by rw [missTo_next hk]; exact hO⟩⟩
set_option maxRecDepth 100000 in
set_option maxHeartbeats 2000000 in
theorem diffRawF_any (l m : List Obj) (lv mv : Value) (S S' : Nat → Prop) (w : World) (h : StoreV S w lv l) (hm : StoreV S' w mv m) (hr : Rising m) (hl : l.length ≤ 800) :
  Calls Tryz.prog 83 #[lv, mv] w fun e w' => RetStoreF w w' e (rawL l m) (rawE l m) := by
 have hmf : ∀ (fn : Fn) (first cap : Array Value) (w : World), (Instr.makeFunc fn first cap).run Tryz.prog w = .ok (.func fn first cap) w := fun _ _ _ _ => rfl
 obtain ⟨la, lc, rfl⟩ := h.vshape
 obtain ⟨ma, mc, rfl⟩ := hm.vshape
 obtain ⟨w1, hw1⟩ : ∃ w1 : World, w1 = w.alloc (.cells #[.slice ma m.length mc] 22) := ⟨_, rfl⟩
 have hb1 : Below w.heap.size w w1 := by rw [hw1]; exact (Below.refl _ _).alloc (Nat.le_refl _) _
 have hT : w1.heap[w.heap.size]? = some (.cells #[.slice ma m.length mc] 22 (0, 0)) := by rw [hw1]; exact heap_alloc_new w _
 have hz : w1.heap.size = w.heap.size + 1 := by rw [hw1]; simp
 have HE := Lib.hid (eachC_any (miss_does hr hl (J := w.heap.size + 1) (Nat.le_of_eq hz) hT (hm.below hb1)) (.slice la l.length lc) S (h.below hb1) (w := w1.alloc (.cells #[.slice none 0 0] 22)) ⟨(Below.refl _ _).alloc (Nat.le_refl _) _, by rw [missTo_zero, ← hz]; exact outAt_new w1 _⟩)
 have HwE := Lib.hid (show rawE l m = scan (missErr l m) l.length from rfl)
 have HwL := Lib.hid (show rawL l m = if rawE l m = 0 then missL l m else [] from rfl)
 have Hend := Lib.hid (missTo_end l m)
 have hml := missL_length l m
 have HJl := Lib.hid (show (missL l m).length * 56 ≤ 140737488351232 by omega)
 have Hb1 := Lib.hid hb1
 clear h hm hr hml hT hb1
 rw [HwL.out]
 generalize rawE l m = se at *
 rw [← HwE.out] at HE
 clear HwE HwL
 by_cases hs : se = 0
 ·subst hs
  rw [if_pos rfl]
  have Hw1 := Lib.hid hw1
  go_enter Tryz.func83, Tryz.ntmps83
  go_wp2_with fail
  rw [← Hw1.out]
  refine HE.out.mono ?_
  rintro e w3 ⟨rfl, hb3, hI3⟩
  obtain ⟨_, v3, S3, hG3, hS3, _, hc3⟩ := hI3 (by simp)
  rw [Hend.out] at hG3
  obtain ⟨a3, c3, rfl⟩ := hG3.gath.shape
  have hst := Lib.hid ((GathF.store ⟨S3, hG3, fun b hb => (hS3 b hb).2⟩ HJl.out).weaken (S' := fun b => w.heap.size ≤ b) fun b hb => by omega)
  have hb4 : Below w.heap.size w w3 := Hb1.out.trans (hb3.mono (by omega))
  have j0 := block_cell (j := 0) hc3 rfl
  have Hb4 := Lib.hid hb4
  clear hb4 hb3 hI3 hG3 hS3 hc3
  go_wp2_with fail
  go_ret2
  exact ⟨_, rfl, hst.out, Hb4.out⟩
 ·have hq : (se != 0) = true := by simpa using hs
  rw [if_neg hs]
  have Hw1 := Lib.hid hw1
  clear hs
  go_enter Tryz.func83, Tryz.ntmps83
  go_wp2_with fail
  rw [← Hw1.out]
  refine HE.out.mono ?_
  rintro e w3 ⟨rfl, hb3, hI3⟩
  have hb4 : Below w.heap.size w w3 := Hb1.out.trans (hb3.mono (by omega))
  have Hb4 := Lib.hid hb4
  clear hb4 hb3 hI3
  go_wp2_with fail
  go_ret2
  exact ⟨_, rfl, StoreV.nil _ _ _ _ (by omega), Hb4.out⟩
set_option maxRecDepth 100000 in
set_option maxHeartbeats 2000000 in
theorem objectsF_any (l m : List Obj) (lv mv : Value) (S S' : Nat → Prop) (w : World) (h : StoreV S w lv l) (hm : StoreV S' w mv m) :
  Calls Tryz.prog 25 #[lv, mv] w fun e w' => RetStoreF w w' e (diffL l m) (diffE l m) := by
 have HE := Lib.hid (show diffE l m = if checkStore l ≠ 0 then checkStore l else if checkStore m ≠ 0 then checkStore m else rawE l m from rfl)
 have HL := Lib.hid (show diffL l m = if diffE l m = 0 then missL l m else [] from rfl)
 have H1 := Lib.hid (storeCheck_any l lv S w h)
 have H2 := Lib.hid (fun x (hb : Below w.heap.size w x) => storeCheck_any m mv S' x (hm.below hb))
 have H3 := Lib.hid (fun (e1 : checkStore l = 0) (e2 : checkStore m = 0) x (hb : Below w.heap.size w x) => diffRawF_any l m lv mv S S' x (h.below hb) (hm.below hb) (checkStore_rising e2) (by have := (checkStore_zero e1).1; omega))
 obtain ⟨la, lc, rfl⟩ := h.vshape
 obtain ⟨ma, mc, rfl⟩ := hm.vshape
 clear h hm
 by_cases h1 : checkStore l = 0
 ·by_cases h2 : checkStore m = 0
  ·have Hr := Lib.hid (H3.out h1 h2)
   rw [if_neg (by simpa using h1), if_neg (by simpa using h2)] at HE
   rw [h1] at H1; rw [h2] at H2
   have HL2 := Lib.hid (show diffL l m = rawL l m by rw [HL.out, HE.out]; rfl)
   rw [HL2.out, HE.out]
   clear h1 h2 H3 HE HL
   go_enter Tryz.func25, Tryz.ntmps25
   go_wp2_with fail
   refine H1.out.mono ?_
   rintro e w1 ⟨rfl, hb1⟩
   go_wp2_with fail
   refine (H2.out _ hb1).mono ?_
   rintro e w2 ⟨rfl, hb2⟩
   have hb3 := below_next hb1 hb2
   go_wp2_with fail
   refine (Hr.out _ hb3).mono ?_
   rintro e w3 ⟨v3, rfl, hv3, hb4⟩
   obtain ⟨a3, c3, rfl⟩ := hv3.vshape
   have hb5 := below_next hb3 hb4
   have Hv := Lib.hid (hv3.weaken (S' := fun b => w.heap.size ≤ b) fun b hb => by have := hb3.size; omega)
   clear hv3
   go_wp2_with fail
   go_ret2
   exact ⟨_, rfl, Hv.out, hb5⟩
  ·rw [if_neg (by simpa using h1), if_pos (by simpa using h2)] at HE
   have hq : (checkStore m != 0) = true := by simpa using h2
   have HL2 := Lib.hid (show diffL l m = [] by rw [HL.out, HE.out, if_neg h2])
   rw [h1] at H1
   rw [HL2.out, HE.out]
   clear h1 h2 H3 HE HL
   generalize checkStore m = c at *
   go_enter Tryz.func25, Tryz.ntmps25
   go_wp2_with fail
   refine H1.out.mono ?_
   rintro e w1 ⟨rfl, hb1⟩
   go_wp2_with fail
   refine (H2.out _ hb1).mono ?_
   rintro e w2 ⟨rfl, hb2⟩
   have hb3 := below_next hb1 hb2
   go_wp2_with fail
   go_ret2
   exact ⟨_, rfl, StoreV.nil _ _ _ _ (by omega), hb3⟩
 ·rw [if_pos (by simpa using h1)] at HE
  have hq : (checkStore l != 0) = true := by simpa using h1
  have hq2 : (checkStore l == 0) = false := by simpa using h1
  have HL2 := Lib.hid (show diffL l m = [] by rw [HL.out, HE.out, if_neg h1])
  rw [HL2.out, HE.out]
  clear h1 H3 HE HL H2
  generalize checkStore l = c at *
  go_enter Tryz.func25, Tryz.ntmps25
  go_wp2_with fail
  refine H1.out.mono ?_
  rintro e w1 ⟨rfl, hb1⟩
  go_wp2_with fail
  go_ret2
  exact ⟨_, rfl, StoreV.nil _ _ _ _ (by omega), hb1⟩
theorem objects_any (l m : List Obj) (lv mv : Value) (S S' : Nat → Prop) (w : World) (h : StoreV S w lv l) (hm : StoreV S' w mv m) :
  Calls Tryz.prog 25 #[lv, mv] w fun e w' => RetStoreE w w' e (diffL l m) (diffE l m) := (objectsF_any l m lv mv S S' w h hm).mono fun _ _ h => h.e
end Go.Proofs.YtjdgpgfiomnjkaaGreatDoor
