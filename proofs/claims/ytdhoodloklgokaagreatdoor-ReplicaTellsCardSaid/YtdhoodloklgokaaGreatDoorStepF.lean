
/- StepF: walk of replicaBegun. -/
import Derived.Test.YtdhoodloklgokaaGreatDoorStepA
import Derived.Test.YtdhoodloklgokaaGreatDoorCluA
import Derived.Test.YtdhoodloklgokaaGreatDoorVoteF
namespace Go.Proofs.YtdhoodloklgokaaGreatDoor
open Go.RowKit
set_option linter.unusedVariables false
set_option linter.unusedSimpArgs false

theorem rb1 : prepE hostR comeP = 0 := by decide +kernel
theorem rb2 : tryE hostR comeP = 0 := by decide +kernel
theorem rb3 : voteR hostR comeP = y7 := by
  have h := vb2
  unfold ofS at h
  rw [if_pos vb1] at h; exact h
theorem rb4 : finE (votedR (heldR hostR comeP)) true = 0 := by
  rw [(steps rb1).1, if_neg (by simpa using rb2)]; rfl
theorem rb5 : finR (votedR (heldR hostR comeP)) true = doneR hostR comeP ∧ repCheck (doneR hostR comeP) = 0 := (steps rb1).2 rb2 (by decide)
theorem rb6 : (doneR hostR comeP).store.length = 6 := by decide +kernel
theorem rb7 : finE (heldR hostR comeP) true = 4 := by
  have h := (apart rb1).ca.1
  unfold finE; rw [inE_bad h (by decide)]; rfl
theorem rb8 : inE (heldR hostR comeP) 1 = 0 := (apart rb1).vot.1

set_option maxRecDepth 100000 in
set_option maxHeartbeats 8000000 in
theorem replicaBegun_any (w : World) (ht : Tab w) : Calls Tryz.prog 18 #[] w fun e w' => e = .returned (.bool true) ∧ Below w.heap.size w w' := by
  have HTw := Lib.hid (fun x (hx : Below w.heap.size w x) => ht.below hx)
  clear ht
  go_enter Tryz.func18, Tryz.ntmps18
  go_wp2_with fail
  refine (host_any _).mono ?_
  rintro e u1 ⟨sv1, rv1, ov1, uv1, rfl, hv1, hb1⟩
  have HH := Lib.hid hv1
  obtain ⟨sa1, sc1, rfl⟩ := hv1.store.vshape
  obtain ⟨⟨ra1, rc1⟩, rfl⟩ := hv1.refs.shape
  obtain ⟨oa1, oc1, rfl⟩ := hv1.objs.vshape
  obtain ⟨⟨ua1, uc1⟩, rfl⟩ := hv1.upds.shape
  have HB1 := Lib.hid hb1
  clear hv1 hb1
  simp only [repV]
  go_wp2_with fail
  refine (come_any _).mono ?_
  rintro e u2 ⟨ov2, uv2, rfl, ho2, hu2, hb2⟩
  have HB2 := Lib.hid (below_next HB1.out hb2)
  have HC := Lib.hid (prepare_any hostR comeP _ _ _ _ _ _ _ _ u2 (HH.out.below hb2) ho2 hu2)
  rw [rb1, (apart rb1).a] at HC
  obtain ⟨oa2, oc2, rfl⟩ := ho2.vshape
  obtain ⟨⟨ua2, uc2⟩, rfl⟩ := hu2.shape
  simp only [repV, pshV] at HC ⊢
  clear hb2 HH HB1 ho2 hu2
  generalize hA : heldR hostR comeP = A at *
  go_wp2_with fail
  refine HC.out.mono ?_
  rintro e u3 ⟨sv5, rv5, ov5, uv5, rfl, hv, hb⟩
  obtain ⟨sa5, sc5, rfl⟩ := hv.store.vshape
  obtain ⟨⟨ra5, rc5⟩, rfl⟩ := hv.refs.shape
  obtain ⟨oa5, oc5, rfl⟩ := hv.objs.vshape
  obtain ⟨⟨ua5, uc5⟩, rfl⟩ := hv.upds.shape
  have hbA : Below u3.heap.size u3 (u3.alloc (.cells #[.slice sa5 A.store.length sc5, .slice ra5 A.refs.length rc5, .int .i64 A.gen, .int .i64 A.phase, .slice oa5 A.pend.objects.length oc5, .slice ua5 A.pend.updates.length uc5, .bool A.pend.force] 28)) := (Below.refl _ _).alloc (Nat.le_refl _) _
  have HG3 := Lib.hid (show Bag (fun _ => True) (u3.alloc (.cells #[.slice sa5 A.store.length sc5, .slice ra5 A.refs.length rc5, .int .i64 A.gen, .int .i64 A.phase, .slice oa5 A.pend.objects.length oc5, .slice ua5 A.pend.updates.length uc5, .bool A.pend.force] 28)) [(u3.heap.size, A)] from ⟨⟨_, _, _, _, _, _, _, _, heap_alloc_new u3 _, (hv.below hbA).weaken fun _ _ => trivial⟩, trivial⟩)
  have HB3 := Lib.hid (below_next (below_next HB2.out hb) hbA)
  clear hv hb hbA HC HB2
  simp only [repV]
  have hA1 := hA
  clear hA
  have Vt := Lib.hid (show inE A 1 = 0 ∧ votR A = votedR A ∧ votS A = y7 from by rw [← hA1]; exact ⟨rb8, (apart rb1).vot.2.1, (apart rb1).vot.2.2.trans rb3⟩)
  have Vf := Lib.hid (show finE (votedR A) true = 0 ∧ finR (votedR A) true = doneR hostR comeP from by rw [← hA1]; exact ⟨rb4, rb5.1⟩)
  have Vc := Lib.hid (show repCheck (votedR A) = 0 ∧ craR (votedR A) = hostR from by rw [← hA1]; exact (apart rb1).cb)
  have Vi := Lib.hid (show finE A true = 4 ∧ finR A true = rep0 from by rw [← hA1]; exact ⟨rb7, by unfold finR; rw [rb7]; rfl⟩)
  have Vp := Lib.hid (show A.phase = 1 ∧ (votedR A).phase = 2 from by rw [← hA1]; exact ⟨rfl, rfl⟩)
  generalize hB : votedR A = B at *
  generalize hC : doneR hostR comeP = C at *
  have Vg := Lib.hid (show C.gen = 8 ∧ C.store.length = 6 ∧ repCheck C = 0 from by rw [← hC]; exact ⟨rfl, rb6, rb5.2⟩)
  clear hA1 hB hC
  obtain ⟨sa0, sc0, ra0, rc0, oa0, oc0, ua0, uc0, hbk0, hrd0⟩ := HG3.out.1
  have y0 := block_cell (j := 0) hbk0 rfl
  have y1 := block_cell (j := 1) hbk0 rfl
  have y2 := block_cell (j := 2) hbk0 rfl
  have y3 := block_cell (j := 3) hbk0 rfl
  have y4 := block_cell (j := 4) hbk0 rfl
  have y5 := block_cell (j := 5) hbk0 rfl
  have y6 := block_cell (j := 6) hbk0 rfl
  have HC := Lib.hid (vote_any A _ _ _ _ _ _ hrd0 (HTw.out _ HB3.out))
  rw [Vt.out.1, Vt.out.2.1, Vt.out.2.2] at HC
  simp only [repV] at HC
  clear hbk0 hrd0
  go_wp2_with fail
  refine HC.out.mono ?_
  rintro e u4 ⟨sv5, rv5, ov5, uv5, rfl, hv, hb⟩
  obtain ⟨sa5, sc5, rfl⟩ := hv.store.vshape
  obtain ⟨⟨ra5, rc5⟩, rfl⟩ := hv.refs.shape
  obtain ⟨oa5, oc5, rfl⟩ := hv.objs.vshape
  obtain ⟨⟨ua5, uc5⟩, rfl⟩ := hv.upds.shape
  have hbA : Below u4.heap.size u4 (u4.alloc (.cells #[.slice sa5 B.store.length sc5, .slice ra5 B.refs.length rc5, .int .i64 B.gen, .int .i64 B.phase, .slice oa5 B.pend.objects.length oc5, .slice ua5 B.pend.updates.length uc5, .bool B.pend.force] 28)) := (Below.refl _ _).alloc (Nat.le_refl _) _
  have HG4 := Lib.hid (show Bag (fun _ => True) (u4.alloc (.cells #[.slice sa5 B.store.length sc5, .slice ra5 B.refs.length rc5, .int .i64 B.gen, .int .i64 B.phase, .slice oa5 B.pend.objects.length oc5, .slice ua5 B.pend.updates.length uc5, .bool B.pend.force] 28)) ((u4.heap.size, B) :: _) from ⟨⟨_, _, _, _, _, _, _, _, heap_alloc_new u4 _, (hv.below hbA).weaken fun _ _ => trivial⟩, (HG3.out.below hb).below hbA⟩)
  have HB4 := Lib.hid (below_next (below_next HB3.out hb) hbA)
  clear hv hb hbA HC HB3 HG3 y0 y1 y2 y3 y4 y5 y6
  simp only [repV]
  obtain ⟨sa0, sc0, ra0, rc0, oa0, oc0, ua0, uc0, hbk0, hrd0⟩ := HG4.out.1
  have y0 := block_cell (j := 0) hbk0 rfl
  have y1 := block_cell (j := 1) hbk0 rfl
  have y2 := block_cell (j := 2) hbk0 rfl
  have y3 := block_cell (j := 3) hbk0 rfl
  have y4 := block_cell (j := 4) hbk0 rfl
  have y5 := block_cell (j := 5) hbk0 rfl
  have y6 := block_cell (j := 6) hbk0 rfl
  have HC := Lib.hid (finish_any B true _ _ _ _ _ _ hrd0)
  rw [Vf.out.1, Vf.out.2] at HC
  simp only [repV] at HC
  clear hbk0 hrd0
  go_wp2_with fail
  refine HC.out.mono ?_
  rintro e u5 ⟨sv5, rv5, ov5, uv5, rfl, hv, hb⟩
  obtain ⟨sa5, sc5, rfl⟩ := hv.store.vshape
  obtain ⟨⟨ra5, rc5⟩, rfl⟩ := hv.refs.shape
  obtain ⟨oa5, oc5, rfl⟩ := hv.objs.vshape
  obtain ⟨⟨ua5, uc5⟩, rfl⟩ := hv.upds.shape
  have hbA : Below u5.heap.size u5 (u5.alloc (.cells #[.slice sa5 C.store.length sc5, .slice ra5 C.refs.length rc5, .int .i64 C.gen, .int .i64 C.phase, .slice oa5 C.pend.objects.length oc5, .slice ua5 C.pend.updates.length uc5, .bool C.pend.force] 28)) := (Below.refl _ _).alloc (Nat.le_refl _) _
  have HG5 := Lib.hid (show Bag (fun _ => True) (u5.alloc (.cells #[.slice sa5 C.store.length sc5, .slice ra5 C.refs.length rc5, .int .i64 C.gen, .int .i64 C.phase, .slice oa5 C.pend.objects.length oc5, .slice ua5 C.pend.updates.length uc5, .bool C.pend.force] 28)) ((u5.heap.size, C) :: _) from ⟨⟨_, _, _, _, _, _, _, _, heap_alloc_new u5 _, (hv.below hbA).weaken fun _ _ => trivial⟩, (HG4.out.below hb).below hbA⟩)
  have HB5 := Lib.hid (below_next (below_next HB4.out hb) hbA)
  clear hv hb hbA HC HB4 HG4 y0 y1 y2 y3 y4 y5 y6
  simp only [repV]
  obtain ⟨sa0, sc0, ra0, rc0, oa0, oc0, ua0, uc0, hbk0, hrd0⟩ := HG5.out.2.1
  have y0 := block_cell (j := 0) hbk0 rfl
  have y1 := block_cell (j := 1) hbk0 rfl
  have y2 := block_cell (j := 2) hbk0 rfl
  have y3 := block_cell (j := 3) hbk0 rfl
  have y4 := block_cell (j := 4) hbk0 rfl
  have y5 := block_cell (j := 5) hbk0 rfl
  have y6 := block_cell (j := 6) hbk0 rfl
  have HC := Lib.hid (crash_any B _ _ _ _ _ _ hrd0)
  rw [Vc.out.1, Vc.out.2] at HC
  simp only [repV] at HC
  clear hbk0 hrd0
  go_wp2_with fail
  refine HC.out.mono ?_
  rintro e u6 ⟨sv5, rv5, ov5, uv5, rfl, hv, hb⟩
  obtain ⟨sa5, sc5, rfl⟩ := hv.store.vshape
  obtain ⟨⟨ra5, rc5⟩, rfl⟩ := hv.refs.shape
  obtain ⟨oa5, oc5, rfl⟩ := hv.objs.vshape
  obtain ⟨⟨ua5, uc5⟩, rfl⟩ := hv.upds.shape
  have hbA : Below u6.heap.size u6 (u6.alloc (.cells #[.slice sa5 hostR.store.length sc5, .slice ra5 hostR.refs.length rc5, .int .i64 hostR.gen, .int .i64 hostR.phase, .slice oa5 hostR.pend.objects.length oc5, .slice ua5 hostR.pend.updates.length uc5, .bool hostR.pend.force] 28)) := (Below.refl _ _).alloc (Nat.le_refl _) _
  have HG6 := Lib.hid (show Bag (fun _ => True) (u6.alloc (.cells #[.slice sa5 hostR.store.length sc5, .slice ra5 hostR.refs.length rc5, .int .i64 hostR.gen, .int .i64 hostR.phase, .slice oa5 hostR.pend.objects.length oc5, .slice ua5 hostR.pend.updates.length uc5, .bool hostR.pend.force] 28)) ((u6.heap.size, hostR) :: _) from ⟨⟨_, _, _, _, _, _, _, _, heap_alloc_new u6 _, (hv.below hbA).weaken fun _ _ => trivial⟩, (HG5.out.below hb).below hbA⟩)
  have HB6 := Lib.hid (below_next (below_next HB5.out hb) hbA)
  clear hv hb hbA HC HB5 HG5 y0 y1 y2 y3 y4 y5 y6
  simp only [repV]
  obtain ⟨sa0, sc0, ra0, rc0, oa0, oc0, ua0, uc0, hbk0, hrd0⟩ := HG6.out.2.2.2.1
  have y0 := block_cell (j := 0) hbk0 rfl
  have y1 := block_cell (j := 1) hbk0 rfl
  have y2 := block_cell (j := 2) hbk0 rfl
  have y3 := block_cell (j := 3) hbk0 rfl
  have y4 := block_cell (j := 4) hbk0 rfl
  have y5 := block_cell (j := 5) hbk0 rfl
  have y6 := block_cell (j := 6) hbk0 rfl
  have HC := Lib.hid (finish_any A true _ _ _ _ _ _ hrd0)
  rw [Vi.out.1, Vi.out.2] at HC
  simp only [repV] at HC
  clear hbk0 hrd0
  go_wp2_with fail
  refine HC.out.mono ?_
  rintro e u7 ⟨sv5, rv5, ov5, uv5, rfl, hv, hb⟩
  obtain ⟨sa5, sc5, rfl⟩ := hv.store.vshape
  obtain ⟨⟨ra5, rc5⟩, rfl⟩ := hv.refs.shape
  obtain ⟨oa5, oc5, rfl⟩ := hv.objs.vshape
  obtain ⟨⟨ua5, uc5⟩, rfl⟩ := hv.upds.shape
  have hbA : Below u7.heap.size u7 (u7.alloc (.cells #[.slice sa5 rep0.store.length sc5, .slice ra5 rep0.refs.length rc5, .int .i64 rep0.gen, .int .i64 rep0.phase, .slice oa5 rep0.pend.objects.length oc5, .slice ua5 rep0.pend.updates.length uc5, .bool rep0.pend.force] 28)) := (Below.refl _ _).alloc (Nat.le_refl _) _
  have HG7 := Lib.hid (show Bag (fun _ => True) (u7.alloc (.cells #[.slice sa5 rep0.store.length sc5, .slice ra5 rep0.refs.length rc5, .int .i64 rep0.gen, .int .i64 rep0.phase, .slice oa5 rep0.pend.objects.length oc5, .slice ua5 rep0.pend.updates.length uc5, .bool rep0.pend.force] 28)) ((u7.heap.size, rep0) :: _) from ⟨⟨_, _, _, _, _, _, _, _, heap_alloc_new u7 _, (hv.below hbA).weaken fun _ _ => trivial⟩, (HG6.out.below hb).below hbA⟩)
  have HB7 := Lib.hid (below_next (below_next HB6.out hb) hbA)
  clear hv hb hbA HC HB6 HG6 y0 y1 y2 y3 y4 y5 y6
  simp only [repV]
  go_wp2_with fail
  generalize u3.heap.size = D1 at *
  generalize u4.heap.size = D3 at *
  generalize u5.heap.size = D6 at *
  generalize u6.heap.size = D8 at *
  generalize u7.heap.size = D10 at *
  generalize u7.alloc _ = x7 at *
  obtain ⟨Q, hQ, hQ1, _⟩ := cls_plain x7
  have hQb := hQ.below
  have hQn := hQ.next
  obtain ⟨sah, sch, rah, rch, oah, och, uah, uch, hbkh, hrdh⟩ := HG7.out.2.1
  obtain ⟨sac, scc, rac, rcc, oac, occ, uac, ucc, hbkc, hrdc⟩ := HG7.out.2.2.1
  obtain ⟨sab, scb, rab, rcb, oab, ocb, uab, ucb, hbkb, hrdb⟩ := HG7.out.2.2.2.1
  obtain ⟨saa, sca, raa, rca, oaa, oca, uaa, uca, hbka, hrda⟩ := HG7.out.2.2.2.2.1
  rw [Vp.out.1] at hbka
  rw [Vp.out.2] at hbkb
  rw [Vg.out.1, Vg.out.2.1] at hbkc
  have Kh := Lib.hid (fun x (hx : In Q x) => blk_below hbkh (hQb _ hx))
  have Kc := Lib.hid (fun x (hx : In Q x) => blk_below hbkc (hQb _ hx))
  have Kb := Lib.hid (fun x (hx : In Q x) => blk_below hbkb (hQb _ hx))
  have Ka := Lib.hid (fun x (hx : In Q x) => blk_below hbka (hQb _ hx))
  have Rc := Lib.hid (fun x (hx : In Q x) => RepIs.below hrdc (hQb _ hx))
  have Rh := Lib.hid (fun x (hx : In Q x) => RepIs.below hrdh (hQb _ hx))
  clear hbkh hbkc hbkb hbka hrdh hrdc hrdb hrda HG7
  refine wp_region_held (S := In Q) (by kernel_rfl) ?_
  change wpAnyH _ _ _ _ _ _ _ _ (World.drew _)
  have hC0 := hQ.drew _ hQ1
  generalize x7.drew = x0 at hC0 ⊢
  clear hQ1
  refine wpAnyH_take (i := 0) (v := .agg #[.slice sac 6 scc, .slice rac C.refs.length rcc, .int .i64 8, .int .i64 C.phase, .slice oac C.pend.objects.length occ, .slice uac C.pend.updates.length ucc, .bool C.pend.force]) rfl (by kernel_rfl) (by kernel_rfl) (by kernel_rfl) (fun _ _ _ h => h) (Or.inl ⟨by rfl, fun w hSw => ?_⟩) hC0 ?_
  · have hbk := Kc.out _ hSw
    have y0 := block_cell (j := 0) hbk rfl
    have y1 := block_cell (j := 1) hbk rfl
    have y2 := block_cell (j := 2) hbk rfl
    have y3 := block_cell (j := 3) hbk rfl
    have y4 := block_cell (j := 4) hbk rfl
    have y5 := block_cell (j := 5) hbk rfl
    have y6 := block_cell (j := 6) hbk rfl
    clear hbk
    go_simp
  simp only [Act.put, List.getElem_toArray, List.getElem_cons_zero, List.getElem_cons_succ, List.setIfInBounds_toArray, List.set_cons_zero, List.set_cons_succ]
  refine wpAnyH_all (rs := [1]) (by kernel_rfl) (by simp) (fun j hj => ?_)
  obtain rfl : j = 1 := by simpa using hj
  refine Or.inl ?_
  have HCk := Lib.hid (repCheck_any C _ _ _ _ _ x0 (Rc.out _ hC0))
  rw [Vg.out.2.2] at HCk
  simp only [repV] at HCk
  rw [Vg.out.1, Vg.out.2.1] at HCk
  go_wp2_with fail
  refine HCk.out.mono ?_
  rintro e x1 ⟨rfl, hb⟩
  have hC1 := hQn _ _ hC0 hb
  clear hb HCk hC0
  go_simp
  have hq7 : (y7.toList == [121, 101, 115, 32, 55, 32, 109, 97, 105, 110, 32, 51, 32, 54, 59]) = true := by decide +kernel
  refine wpAnyH_take (i := 2) (v := .bool true) rfl (by kernel_rfl) (by kernel_rfl) (by kernel_rfl) (fun _ _ _ h => h) (Or.inl ⟨by rfl, fun w hSw => ?_⟩) hC1 ?_
  · go_simp
  simp only [Act.put, List.getElem_toArray, List.getElem_cons_zero, List.getElem_cons_succ, List.setIfInBounds_toArray, List.set_cons_zero, List.set_cons_succ]
  refine wpAnyH_take (i := 3) (v := .bool true) rfl (by kernel_rfl) (by kernel_rfl) (by kernel_rfl) (fun _ _ _ h => h) (Or.inl ⟨by rfl, fun w hSw => ?_⟩) hC1 ?_
  · go_simp
  simp only [Act.put, List.getElem_toArray, List.getElem_cons_zero, List.getElem_cons_succ, List.setIfInBounds_toArray, List.set_cons_zero, List.set_cons_succ]
  refine wpAnyH_take (i := 4) (v := .int .i64 0) rfl (by kernel_rfl) (by kernel_rfl) (by kernel_rfl) (fun _ _ _ h => h) (Or.inl ⟨by rfl, fun w hSw => ?_⟩) hC1 ?_
  · go_simp
  simp only [Act.put, List.getElem_toArray, List.getElem_cons_zero, List.getElem_cons_succ, List.setIfInBounds_toArray, List.set_cons_zero, List.set_cons_succ]
  refine wpAnyH_take (i := 5) (v := .bool true) rfl (by kernel_rfl) (by kernel_rfl) (by kernel_rfl) (fun _ _ _ h => h) (Or.inl ⟨by rfl, fun w hSw => ?_⟩) hC1 ?_
  · go_simp
  simp only [Act.put, List.getElem_toArray, List.getElem_cons_zero, List.getElem_cons_succ, List.setIfInBounds_toArray, List.set_cons_zero, List.set_cons_succ]
  refine wpAnyH_take (i := 6) (v := .bool true) rfl (by kernel_rfl) (by kernel_rfl) (by kernel_rfl) (fun _ _ _ h => h) (Or.inl ⟨by rfl, fun w hSw => ?_⟩) hC1 ?_
  · go_simp
  simp only [Act.put, List.getElem_toArray, List.getElem_cons_zero, List.getElem_cons_succ, List.setIfInBounds_toArray, List.set_cons_zero, List.set_cons_succ]
  refine wpAnyH_take (i := 7) (v := .bool true) rfl (by kernel_rfl) (by kernel_rfl) (by kernel_rfl) (fun _ _ _ h => h) (Or.inl ⟨by rfl, fun w hSw => ?_⟩) hC1 ?_
  · go_simp
  simp only [Act.put, List.getElem_toArray, List.getElem_cons_zero, List.getElem_cons_succ, List.setIfInBounds_toArray, List.set_cons_zero, List.set_cons_succ]
  refine wpAnyH_take (i := 8) (v := .int .i64 0) rfl (by kernel_rfl) (by kernel_rfl) (by kernel_rfl) (fun _ _ _ h => h) (Or.inl ⟨by rfl, fun w hSw => ?_⟩) hC1 ?_
  · go_simp
  simp only [Act.put, List.getElem_toArray, List.getElem_cons_zero, List.getElem_cons_succ, List.setIfInBounds_toArray, List.set_cons_zero, List.set_cons_succ]
  refine wpAnyH_take (i := 9) (v := .bool true) rfl (by kernel_rfl) (by kernel_rfl) (by kernel_rfl) (fun _ _ _ h => h) (Or.inl ⟨by rfl, fun w hSw => ?_⟩) hC1 ?_
  · go_simp
  simp only [Act.put, List.getElem_toArray, List.getElem_cons_zero, List.getElem_cons_succ, List.setIfInBounds_toArray, List.set_cons_zero, List.set_cons_succ]
  refine wpAnyH_take (i := 10) (v := .bool true) rfl (by kernel_rfl) (by kernel_rfl) (by kernel_rfl) (fun _ _ _ h => h) (Or.inl ⟨by rfl, fun w hSw => ?_⟩) hC1 ?_
  · go_simp
  simp only [Act.put, List.getElem_toArray, List.getElem_cons_zero, List.getElem_cons_succ, List.setIfInBounds_toArray, List.set_cons_zero, List.set_cons_succ]
  refine wpAnyH_take (i := 11) (v := .bool true) rfl (by kernel_rfl) (by kernel_rfl) (by kernel_rfl) (fun _ _ _ h => h) (Or.inl ⟨by rfl, fun w hSw => ?_⟩) hC1 ?_
  · go_simp
  simp only [Act.put, List.getElem_toArray, List.getElem_cons_zero, List.getElem_cons_succ, List.setIfInBounds_toArray, List.set_cons_zero, List.set_cons_succ]
  refine wpAnyH_take (i := 12) (v := .int .i64 0) rfl (by kernel_rfl) (by kernel_rfl) (by kernel_rfl) (fun _ _ _ h => h) (Or.inl ⟨by rfl, fun w hSw => ?_⟩) hC1 ?_
  · go_simp
  simp only [Act.put, List.getElem_toArray, List.getElem_cons_zero, List.getElem_cons_succ, List.setIfInBounds_toArray, List.set_cons_zero, List.set_cons_succ]
  refine wpAnyH_take (i := 13) (v := .bool true) rfl (by kernel_rfl) (by kernel_rfl) (by kernel_rfl) (fun _ _ _ h => h) (Or.inl ⟨by rfl, fun w hSw => ?_⟩) hC1 ?_
  · go_simp
  simp only [Act.put, List.getElem_toArray, List.getElem_cons_zero, List.getElem_cons_succ, List.setIfInBounds_toArray, List.set_cons_zero, List.set_cons_succ]
  refine wpAnyH_take (i := 14) (v := .bool true) rfl (by kernel_rfl) (by kernel_rfl) (by kernel_rfl) (fun _ _ _ h => h) (Or.inl ⟨by rfl, fun w hSw => ?_⟩) hC1 ?_
  · go_simp
  simp only [Act.put, List.getElem_toArray, List.getElem_cons_zero, List.getElem_cons_succ, List.setIfInBounds_toArray, List.set_cons_zero, List.set_cons_succ]
  refine wpAnyH_take (i := 15) (v := .bool true) rfl (by kernel_rfl) (by kernel_rfl) (by kernel_rfl) (fun _ _ _ h => h) (Or.inl ⟨by rfl, fun w hSw => ?_⟩) hC1 ?_
  · go_simp
  simp only [Act.put, List.getElem_toArray, List.getElem_cons_zero, List.getElem_cons_succ, List.setIfInBounds_toArray, List.set_cons_zero, List.set_cons_succ]
  refine wpAnyH_take (i := 16) (v := .int .i64 0) rfl (by kernel_rfl) (by kernel_rfl) (by kernel_rfl) (fun _ _ _ h => h) (Or.inl ⟨by rfl, fun w hSw => ?_⟩) hC1 ?_
  · go_simp
  simp only [Act.put, List.getElem_toArray, List.getElem_cons_zero, List.getElem_cons_succ, List.setIfInBounds_toArray, List.set_cons_zero, List.set_cons_succ]
  refine wpAnyH_take (i := 17) (v := .bool true) rfl (by kernel_rfl) (by kernel_rfl) (by kernel_rfl) (fun _ _ _ h => h) (Or.inl ⟨by rfl, fun w hSw => ?_⟩) hC1 ?_
  · go_simp
  simp only [Act.put, List.getElem_toArray, List.getElem_cons_zero, List.getElem_cons_succ, List.setIfInBounds_toArray, List.set_cons_zero, List.set_cons_succ]
  refine wpAnyH_take (i := 18) (v := .bool true) rfl (by kernel_rfl) (by kernel_rfl) (by kernel_rfl) (fun _ _ _ h => h) (Or.inl ⟨by rfl, fun w hSw => ?_⟩) hC1 ?_
  · go_simp
  simp only [Act.put, List.getElem_toArray, List.getElem_cons_zero, List.getElem_cons_succ, List.setIfInBounds_toArray, List.set_cons_zero, List.set_cons_succ]
  refine wpAnyH_take (i := 19) (v := .bool true) rfl (by kernel_rfl) (by kernel_rfl) (by kernel_rfl) (fun _ _ _ h => h) (Or.inl ⟨by rfl, fun w hSw => ?_⟩) hC1 ?_
  · go_simp
  simp only [Act.put, List.getElem_toArray, List.getElem_cons_zero, List.getElem_cons_succ, List.setIfInBounds_toArray, List.set_cons_zero, List.set_cons_succ]
  refine wpAnyH_take (i := 20) (v := .int .i64 4) rfl (by kernel_rfl) (by kernel_rfl) (by kernel_rfl) (fun _ _ _ h => h) (Or.inl ⟨by rfl, fun w hSw => ?_⟩) hC1 ?_
  · go_simp
  simp only [Act.put, List.getElem_toArray, List.getElem_cons_zero, List.getElem_cons_succ, List.setIfInBounds_toArray, List.set_cons_zero, List.set_cons_succ]
  refine wpAnyH_take (i := 21) (v := .bool true) rfl (by kernel_rfl) (by kernel_rfl) (by kernel_rfl) (fun _ _ _ h => h) (Or.inl ⟨by rfl, fun w hSw => ?_⟩) hC1 ?_
  · go_simp
  simp only [Act.put, List.getElem_toArray, List.getElem_cons_zero, List.getElem_cons_succ, List.setIfInBounds_toArray, List.set_cons_zero, List.set_cons_succ]
  refine wpAnyH_take (i := 22) (v := .bool true) rfl (by kernel_rfl) (by kernel_rfl) (by kernel_rfl) (fun _ _ _ h => h) (Or.inl ⟨by rfl, fun w hSw => ?_⟩) hC1 ?_
  · go_simp
  simp only [Act.put, List.getElem_toArray, List.getElem_cons_zero, List.getElem_cons_succ, List.setIfInBounds_toArray, List.set_cons_zero, List.set_cons_succ]
  refine wpAnyH_take (i := 23) (v := .bool true) rfl (by kernel_rfl) (by kernel_rfl) (by kernel_rfl) (fun _ _ _ h => h) (Or.inl ⟨by rfl, fun w hSw => ?_⟩) hC1 ?_
  · go_simp
  simp only [Act.put, List.getElem_toArray, List.getElem_cons_zero, List.getElem_cons_succ, List.setIfInBounds_toArray, List.set_cons_zero, List.set_cons_succ]
  refine wpAnyH_take (i := 24) (v := .pointer (some ⟨D1, 3, none⟩)) rfl (by kernel_rfl) (by kernel_rfl) (by kernel_rfl) (fun _ _ _ h => h) (Or.inl ⟨by rfl, fun w hSw => ?_⟩) hC1 ?_
  · go_simp
  simp only [Act.put, List.getElem_toArray, List.getElem_cons_zero, List.getElem_cons_succ, List.setIfInBounds_toArray, List.set_cons_zero, List.set_cons_succ]
  refine wpAnyH_take (i := 25) (v := .int .i64 1) rfl (by kernel_rfl) (by kernel_rfl) (by kernel_rfl) (fun _ _ _ h => h) (Or.inl ⟨by rfl, fun w hSw => ?_⟩) hC1 ?_
  · have yy := block_cell (j := 3) (Ka.out _ hSw) rfl; go_simp
  simp only [Act.put, List.getElem_toArray, List.getElem_cons_zero, List.getElem_cons_succ, List.setIfInBounds_toArray, List.set_cons_zero, List.set_cons_succ]
  refine wpAnyH_take (i := 26) (v := .bool true) rfl (by kernel_rfl) (by kernel_rfl) (by kernel_rfl) (fun _ _ _ h => h) (Or.inl ⟨by rfl, fun w hSw => ?_⟩) hC1 ?_
  · go_simp
  simp only [Act.put, List.getElem_toArray, List.getElem_cons_zero, List.getElem_cons_succ, List.setIfInBounds_toArray, List.set_cons_zero, List.set_cons_succ]
  refine wpAnyH_take (i := 27) (v := .bool true) rfl (by kernel_rfl) (by kernel_rfl) (by kernel_rfl) (fun _ _ _ h => h) (Or.inl ⟨by rfl, fun w hSw => ?_⟩) hC1 ?_
  · go_simp
  simp only [Act.put, List.getElem_toArray, List.getElem_cons_zero, List.getElem_cons_succ, List.setIfInBounds_toArray, List.set_cons_zero, List.set_cons_succ]
  refine wpAnyH_take (i := 28) (v := .bool true) rfl (by kernel_rfl) (by kernel_rfl) (by kernel_rfl) (fun _ _ _ h => h) (Or.inl ⟨by rfl, fun w hSw => ?_⟩) hC1 ?_
  · go_simp
  simp only [Act.put, List.getElem_toArray, List.getElem_cons_zero, List.getElem_cons_succ, List.setIfInBounds_toArray, List.set_cons_zero, List.set_cons_succ]
  refine wpAnyH_take (i := 29) (v := .pointer (some ⟨D3, 3, none⟩)) rfl (by kernel_rfl) (by kernel_rfl) (by kernel_rfl) (fun _ _ _ h => h) (Or.inl ⟨by rfl, fun w hSw => ?_⟩) hC1 ?_
  · go_simp
  simp only [Act.put, List.getElem_toArray, List.getElem_cons_zero, List.getElem_cons_succ, List.setIfInBounds_toArray, List.set_cons_zero, List.set_cons_succ]
  refine wpAnyH_take (i := 30) (v := .int .i64 2) rfl (by kernel_rfl) (by kernel_rfl) (by kernel_rfl) (fun _ _ _ h => h) (Or.inl ⟨by rfl, fun w hSw => ?_⟩) hC1 ?_
  · have yy := block_cell (j := 3) (Kb.out _ hSw) rfl; go_simp
  simp only [Act.put, List.getElem_toArray, List.getElem_cons_zero, List.getElem_cons_succ, List.setIfInBounds_toArray, List.set_cons_zero, List.set_cons_succ]
  refine wpAnyH_take (i := 31) (v := .bool true) rfl (by kernel_rfl) (by kernel_rfl) (by kernel_rfl) (fun _ _ _ h => h) (Or.inl ⟨by rfl, fun w hSw => ?_⟩) hC1 ?_
  · go_simp
  simp only [Act.put, List.getElem_toArray, List.getElem_cons_zero, List.getElem_cons_succ, List.setIfInBounds_toArray, List.set_cons_zero, List.set_cons_succ]
  refine wpAnyH_take (i := 32) (v := .bool true) rfl (by kernel_rfl) (by kernel_rfl) (by kernel_rfl) (fun _ _ _ h => h) (Or.inl ⟨by rfl, fun w hSw => ?_⟩) hC1 ?_
  · go_simp
  simp only [Act.put, List.getElem_toArray, List.getElem_cons_zero, List.getElem_cons_succ, List.setIfInBounds_toArray, List.set_cons_zero, List.set_cons_succ]
  refine wpAnyH_take (i := 33) (v := .bool true) rfl (by kernel_rfl) (by kernel_rfl) (by kernel_rfl) (fun _ _ _ h => h) (Or.inl ⟨by rfl, fun w hSw => ?_⟩) hC1 ?_
  · go_simp
  simp only [Act.put, List.getElem_toArray, List.getElem_cons_zero, List.getElem_cons_succ, List.setIfInBounds_toArray, List.set_cons_zero, List.set_cons_succ]
  refine wpAnyH_take (i := 34) (v := .string y7) rfl (by kernel_rfl) (by kernel_rfl) (by kernel_rfl) (fun _ _ _ h => h) (Or.inl ⟨by rfl, fun w hSw => ?_⟩) hC1 ?_
  · go_simp
  simp only [Act.put, List.getElem_toArray, List.getElem_cons_zero, List.getElem_cons_succ, List.setIfInBounds_toArray, List.set_cons_zero, List.set_cons_succ]
  refine wpAnyH_take (i := 35) (v := .bool true) rfl (by kernel_rfl) (by kernel_rfl) (by kernel_rfl) (fun _ _ _ h => h) (Or.inl ⟨by rfl, fun w hSw => ?_⟩) hC1 ?_
  · have yy := hq7; go_simp
  simp only [Act.put, List.getElem_toArray, List.getElem_cons_zero, List.getElem_cons_succ, List.setIfInBounds_toArray, List.set_cons_zero, List.set_cons_succ]
  refine wpAnyH_take (i := 36) (v := .bool true) rfl (by kernel_rfl) (by kernel_rfl) (by kernel_rfl) (fun _ _ _ h => h) (Or.inl ⟨by rfl, fun w hSw => ?_⟩) hC1 ?_
  · go_simp
  simp only [Act.put, List.getElem_toArray, List.getElem_cons_zero, List.getElem_cons_succ, List.setIfInBounds_toArray, List.set_cons_zero, List.set_cons_succ]
  refine wpAnyH_take (i := 37) (v := .bool true) rfl (by kernel_rfl) (by kernel_rfl) (by kernel_rfl) (fun _ _ _ h => h) (Or.inl ⟨by rfl, fun w hSw => ?_⟩) hC1 ?_
  · go_simp
  simp only [Act.put, List.getElem_toArray, List.getElem_cons_zero, List.getElem_cons_succ, List.setIfInBounds_toArray, List.set_cons_zero, List.set_cons_succ]
  refine wpAnyH_take (i := 38) (v := .pointer (some ⟨D6, 2, none⟩)) rfl (by kernel_rfl) (by kernel_rfl) (by kernel_rfl) (fun _ _ _ h => h) (Or.inl ⟨by rfl, fun w hSw => ?_⟩) hC1 ?_
  · go_simp
  simp only [Act.put, List.getElem_toArray, List.getElem_cons_zero, List.getElem_cons_succ, List.setIfInBounds_toArray, List.set_cons_zero, List.set_cons_succ]
  refine wpAnyH_take (i := 39) (v := .int .i64 8) rfl (by kernel_rfl) (by kernel_rfl) (by kernel_rfl) (fun _ _ _ h => h) (Or.inl ⟨by rfl, fun w hSw => ?_⟩) hC1 ?_
  · have yy := block_cell (j := 2) (Kc.out _ hSw) rfl; go_simp
  simp only [Act.put, List.getElem_toArray, List.getElem_cons_zero, List.getElem_cons_succ, List.setIfInBounds_toArray, List.set_cons_zero, List.set_cons_succ]
  refine wpAnyH_take (i := 40) (v := .bool true) rfl (by kernel_rfl) (by kernel_rfl) (by kernel_rfl) (fun _ _ _ h => h) (Or.inl ⟨by rfl, fun w hSw => ?_⟩) hC1 ?_
  · go_simp
  simp only [Act.put, List.getElem_toArray, List.getElem_cons_zero, List.getElem_cons_succ, List.setIfInBounds_toArray, List.set_cons_zero, List.set_cons_succ]
  refine wpAnyH_take (i := 41) (v := .bool true) rfl (by kernel_rfl) (by kernel_rfl) (by kernel_rfl) (fun _ _ _ h => h) (Or.inl ⟨by rfl, fun w hSw => ?_⟩) hC1 ?_
  · go_simp
  simp only [Act.put, List.getElem_toArray, List.getElem_cons_zero, List.getElem_cons_succ, List.setIfInBounds_toArray, List.set_cons_zero, List.set_cons_succ]
  refine wpAnyH_take (i := 42) (v := .bool true) rfl (by kernel_rfl) (by kernel_rfl) (by kernel_rfl) (fun _ _ _ h => h) (Or.inl ⟨by rfl, fun w hSw => ?_⟩) hC1 ?_
  · go_simp
  simp only [Act.put, List.getElem_toArray, List.getElem_cons_zero, List.getElem_cons_succ, List.setIfInBounds_toArray, List.set_cons_zero, List.set_cons_succ]
  refine wpAnyH_take (i := 43) (v := .pointer (some ⟨D6, 0, none⟩)) rfl (by kernel_rfl) (by kernel_rfl) (by kernel_rfl) (fun _ _ _ h => h) (Or.inl ⟨by rfl, fun w hSw => ?_⟩) hC1 ?_
  · go_simp
  simp only [Act.put, List.getElem_toArray, List.getElem_cons_zero, List.getElem_cons_succ, List.setIfInBounds_toArray, List.set_cons_zero, List.set_cons_succ]
  refine wpAnyH_take (i := 44) (v := .slice sac 6 scc) rfl (by kernel_rfl) (by kernel_rfl) (by kernel_rfl) (fun _ _ _ h => h) (Or.inl ⟨by rfl, fun w hSw => ?_⟩) hC1 ?_
  · have yy := block_cell (j := 0) (Kc.out _ hSw) rfl; go_simp
  simp only [Act.put, List.getElem_toArray, List.getElem_cons_zero, List.getElem_cons_succ, List.setIfInBounds_toArray, List.set_cons_zero, List.set_cons_succ]
  refine wpAnyH_take (i := 45) (v := .int .i64 6) rfl (by kernel_rfl) (by kernel_rfl) (by kernel_rfl) (fun _ _ _ h => h) (Or.inl ⟨by rfl, fun w hSw => ?_⟩) hC1 ?_
  · go_simp
  simp only [Act.put, List.getElem_toArray, List.getElem_cons_zero, List.getElem_cons_succ, List.setIfInBounds_toArray, List.set_cons_zero, List.set_cons_succ]
  refine wpAnyH_take (i := 46) (v := .bool true) rfl (by kernel_rfl) (by kernel_rfl) (by kernel_rfl) (fun _ _ _ h => h) (Or.inl ⟨by rfl, fun w hSw => ?_⟩) hC1 ?_
  · go_simp
  simp only [Act.put, List.getElem_toArray, List.getElem_cons_zero, List.getElem_cons_succ, List.setIfInBounds_toArray, List.set_cons_zero, List.set_cons_succ]
  refine wpAnyH_take (i := 47) (v := .bool true) rfl (by kernel_rfl) (by kernel_rfl) (by kernel_rfl) (fun _ _ _ h => h) (Or.inl ⟨by rfl, fun w hSw => ?_⟩) hC1 ?_
  · go_simp
  simp only [Act.put, List.getElem_toArray, List.getElem_cons_zero, List.getElem_cons_succ, List.setIfInBounds_toArray, List.set_cons_zero, List.set_cons_succ]
  refine wpAnyH_take (i := 48) (v := .bool true) rfl (by kernel_rfl) (by kernel_rfl) (by kernel_rfl) (fun _ _ _ h => h) (Or.inl ⟨by rfl, fun w hSw => ?_⟩) hC1 ?_
  · go_simp
  simp only [Act.put, List.getElem_toArray, List.getElem_cons_zero, List.getElem_cons_succ, List.setIfInBounds_toArray, List.set_cons_zero, List.set_cons_succ]
  refine wpAnyH_take (i := 49) (v := .agg #[.slice sah hostR.store.length sch, .slice rah hostR.refs.length rch, .int .i64 hostR.gen, .int .i64 hostR.phase, .slice oah hostR.pend.objects.length och, .slice uah hostR.pend.updates.length uch, .bool hostR.pend.force]) rfl (by kernel_rfl) (by kernel_rfl) (by kernel_rfl) (fun _ _ _ h => h) (Or.inl ⟨by rfl, fun w hSw => ?_⟩) hC1 ?_
  · have hbk := Kh.out _ hSw
    have y0 := block_cell (j := 0) hbk rfl
    have y1 := block_cell (j := 1) hbk rfl
    have y2 := block_cell (j := 2) hbk rfl
    have y3 := block_cell (j := 3) hbk rfl
    have y4 := block_cell (j := 4) hbk rfl
    have y5 := block_cell (j := 5) hbk rfl
    have y6 := block_cell (j := 6) hbk rfl
    clear hbk
    go_simp
  simp only [Act.put, List.getElem_toArray, List.getElem_cons_zero, List.getElem_cons_succ, List.setIfInBounds_toArray, List.set_cons_zero, List.set_cons_succ]
  refine wpAnyH_all (rs := [50]) (by kernel_rfl) (by simp) (fun j hj => ?_)
  obtain rfl : j = 50 := by simpa using hj
  refine Or.inl ?_
  go_wp2_with fail
  refine (host_any _).mono ?_
  rintro e x2 ⟨svt, rvt, ovt, uvt, rfl, hv, hb⟩
  obtain ⟨sa9, sc9, rfl⟩ := hv.store.vshape
  obtain ⟨⟨ra9, rc9⟩, rfl⟩ := hv.refs.shape
  obtain ⟨oa9, oc9, rfl⟩ := hv.objs.vshape
  obtain ⟨⟨ua9, uc9⟩, rfl⟩ := hv.upds.shape
  have hC2 := hQn _ _ hC1 hb
  have Hh := Lib.hid hv
  clear hv hb
  simp only [repV]
  go_simp
  refine wpAnyH_all (rs := [51]) (by kernel_rfl) (by simp) (fun j hj => ?_)
  obtain rfl : j = 51 := by simpa using hj
  refine Or.inl ?_
  have HSm := Lib.hid (sameReplica_any hostR hostR _ _ _ _ _ _ _ _ _ _ x2 (Rh.out _ hC2) Hh.out)
  rw [(sameRep_iff _ _).2 rfl] at HSm
  simp only [repV] at HSm
  go_wp2_with fail
  refine HSm.out.mono ?_
  rintro e x3 ⟨rfl, hb⟩
  have hC3 := hQn _ _ hC2 hb
  clear hb HSm Hh
  go_simp
  refine wpAnyH_take (i := 52) (v := .bool true) rfl (by kernel_rfl) (by kernel_rfl) (by kernel_rfl) (fun _ _ _ h => h) (Or.inl ⟨by rfl, fun w hSw => ?_⟩) hC3 ?_
  · go_simp
  simp only [Act.put, List.getElem_toArray, List.getElem_cons_zero, List.getElem_cons_succ, List.setIfInBounds_toArray, List.set_cons_zero, List.set_cons_succ]
  refine wpAnyH_all (rs := [53]) (by kernel_rfl) (by simp) (fun j hj => ?_)
  obtain rfl : j = 53 := by simpa using hj
  refine Or.inl ?_
  go_wp2_with fail
  first | refine ⟨hC3, ?_⟩ | skip
  first | refine ⟨by kernel_rfl, ?_⟩ | refine wpAnyH_done (by kernel_rfl) ?_ _
  have HEnd := Lib.hid (below_next HB7.out (hQb _ hC3))
  go_wp2_with fail
  go_ret
  exact ⟨rfl, HEnd.out⟩
end Go.Proofs.YtdhoodloklgokaaGreatDoor
