
/- Walks: the law ReplicaSteps. -/
import Derived.Test.YtdhoodloklgokaaGreatDoorStepF
namespace Go.Proofs.YtdhoodloklgokaaGreatDoor
open Go.RowKit
set_option linter.unusedVariables false
set_option linter.unusedSimpArgs false

theorem no_cut {r : Rep} {p : Psh} (h : tryE r p ≠ 0) : ((voteR r p).extract 0 3).toList = [110, 111, 32] := by
  unfold voteR; rw [if_pos h]
  generalize decB (tryE r p) = ds
  have e : (noB ++ ds).extract 0 3 = noB := by
    apply ByteArray.ext
    rw [ByteArray.data_extract, ByteArray.data_append]
    apply Array.toList_inj.1
    rw [Array.toList_extract, Array.toList_append]
    rfl
  rw [e]; decide +kernel

set_option maxRecDepth 100000 in
set_option maxHeartbeats 16000000 in
theorem replicaSteps_any (r : Rep) (p : Psh) (sv rv ov2 uv2 ov uv : Value) (S S1 : Nat → Prop) (w : World) (h : RepIs S w r sv rv ov2 uv2) (hp : StoreV S1 w ov p.objects ∧ MvsV S1 w uv p.updates) (ht : Tab w) :
    Calls Tryz.prog 17 #[repV r sv rv ov2 uv2, pshV p ov uv] w fun e w' => e = .returned (.bool true) ∧ Below w.heap.size w w' := by
  have H := Lib.hid h
  have G := Lib.hid hp
  have HTw := Lib.hid (fun x (hx : Below w.heap.size w x) => ht.below hx)
  clear ht
  obtain ⟨ho, hu⟩ := hp
  obtain ⟨sa, sc, rfl⟩ := h.store.vshape
  obtain ⟨⟨ra, rc⟩, rfl⟩ := h.refs.shape
  obtain ⟨oa, oc, rfl⟩ := h.objs.vshape
  obtain ⟨⟨ua, uc⟩, rfl⟩ := h.upds.shape
  obtain ⟨oap, ocp, rfl⟩ := ho.vshape
  obtain ⟨⟨uap, ucp⟩, rfl⟩ := hu.shape
  clear h ho hu
  simp only [repV, pshV]
  obtain ⟨R, hR, hR1, HB0⟩ := cls_allocs w [.cells #[.slice sa r.store.length sc, .slice ra r.refs.length rc, .int .i64 r.gen, .int .i64 r.phase, .slice oa r.pend.objects.length oc, .slice ua r.pend.updates.length uc, .bool r.pend.force] 28, .cells #[.slice oap p.objects.length ocp, .slice uap p.updates.length ucp, .bool p.force] 26]
  simp only [List.foldl] at hR1
  have hRb := hR.below
  have HB1 := Lib.hid (hRb _ hR1)
  have HG1 := Lib.hid (show Bag (fun _ => True) _ [(w.heap.size, r)] from ⟨⟨_, _, _, _, _, _, _, _, HB0 _ hR1 0 _ rfl, (H.out.below (hRb _ hR1)).weaken fun _ _ => trivial⟩, trivial⟩)
  have HQ1 := Lib.hid (show BoxQ (fun _ => True) (w.heap.size + 1) _ p from ⟨_, _, _, _, HB0 _ hR1 1 _ rfl, (G.out.1.below (hRb _ hR1)).weaken fun _ _ => trivial, (G.out.2.below (hRb _ hR1)).weaken fun _ _ => trivial⟩)
  clear HB0 hRb hR1 hR H G
  by_cases hz : prepE r p = 0
  case neg =>
    have hA : prepR r p = rep0 := by unfold prepR; rw [if_neg hz]
    have q1 : (prepE r p != 0) = true := by simpa using hz
    clear hz
    go_enter Tryz.func17, Tryz.ntmps17
    obtain ⟨sa0, sc0, ra0, rc0, oa0, oc0, ua0, uc0, hbk0, hrd0⟩ := HG1.out.1
    have y0 := block_cell (j := 0) hbk0 rfl
    have y1 := block_cell (j := 1) hbk0 rfl
    have y2 := block_cell (j := 2) hbk0 rfl
    have y3 := block_cell (j := 3) hbk0 rfl
    have y4 := block_cell (j := 4) hbk0 rfl
    have y5 := block_cell (j := 5) hbk0 rfl
    have y6 := block_cell (j := 6) hbk0 rfl
    obtain ⟨oaq, ocq, uaq, ucq, hbkq, hoq, huq⟩ := HQ1.out
    have z0 := block_cell (j := 0) hbkq rfl
    have z1 := block_cell (j := 1) hbkq rfl
    have z2 := block_cell (j := 2) hbkq rfl
    have HC := Lib.hid (prepare_any r p _ _ _ _ _ _ _ _ _ hrd0 hoq huq)
    rw [hA] at HC
    simp only [repV, pshV] at HC
    clear hbk0 hrd0 hbkq hoq huq
    go_wp2_with fail
    refine HC.out.mono ?_
    rintro e u2 ⟨sv5, rv5, ov5, uv5, rfl, hv, hb⟩
    obtain ⟨sa5, sc5, rfl⟩ := hv.store.vshape
    obtain ⟨⟨ra5, rc5⟩, rfl⟩ := hv.refs.shape
    obtain ⟨oa5, oc5, rfl⟩ := hv.objs.vshape
    obtain ⟨⟨ua5, uc5⟩, rfl⟩ := hv.upds.shape
    have hbA : Below u2.heap.size u2 (u2.alloc (.cells #[.slice sa5 rep0.store.length sc5, .slice ra5 rep0.refs.length rc5, .int .i64 rep0.gen, .int .i64 rep0.phase, .slice oa5 rep0.pend.objects.length oc5, .slice ua5 rep0.pend.updates.length uc5, .bool rep0.pend.force] 28)) := (Below.refl _ _).alloc (Nat.le_refl _) _
    have HG2 := Lib.hid (show Bag (fun _ => True) (u2.alloc (.cells #[.slice sa5 rep0.store.length sc5, .slice ra5 rep0.refs.length rc5, .int .i64 rep0.gen, .int .i64 rep0.phase, .slice oa5 rep0.pend.objects.length oc5, .slice ua5 rep0.pend.updates.length uc5, .bool rep0.pend.force] 28)) ((u2.heap.size, rep0) :: _) from ⟨⟨_, _, _, _, _, _, _, _, heap_alloc_new u2 _, (hv.below hbA).weaken fun _ _ => trivial⟩, (HG1.out.below hb).below hbA⟩)
    have HQ2 := Lib.hid ((HQ1.out.below hb).below hbA)
    have HB2 := Lib.hid (below_next (below_next HB1.out hb) hbA)
    clear hv hb hbA HC HB1 HG1 HQ1 y0 y1 y2 y3 y4 y5 y6 z0 z1 z2
    simp only [repV]
    have HC := Lib.hid (replicaBegun_any _ (HTw.out _ HB2.out))
    try simp only [repV, pshV] at HC
    go_wp2_with fail
    refine HC.out.mono ?_
    rintro e u3 ⟨rfl, hb⟩
    generalize u2.heap.size = D5 at *
    generalize u2.alloc (.cells #[.slice sa5 rep0.store.length sc5, .slice ra5 rep0.refs.length rc5, .int .i64 rep0.gen, .int .i64 rep0.phase, .slice oa5 rep0.pend.objects.length oc5, .slice ua5 rep0.pend.updates.length uc5, .bool rep0.pend.force] 28) = x3 at *
    have HG3 := Lib.hid (HG2.out.below hb)
    have HQ3 := Lib.hid (HQ2.out.below hb)
    have HB3 := Lib.hid (below_next HB2.out hb)
    clear hb HC HG2 HQ2 HB2 
    have HC := Lib.hid (pushBegun_any u3)
    try simp only [repV, pshV] at HC
    go_wp2_with fail
    refine HC.out.mono ?_
    rintro e u4 ⟨rfl, hb⟩
    have HG4 := Lib.hid (HG3.out.below hb)
    have HQ4 := Lib.hid (HQ3.out.below hb)
    have HB4 := Lib.hid (below_next HB3.out hb)
    clear hb HC HG3 HQ3 HB3 
    obtain ⟨sa0, sc0, ra0, rc0, oa0, oc0, ua0, uc0, hbk0, hrd0⟩ := HG4.out.1
    have y0 := block_cell (j := 0) hbk0 rfl
    have y1 := block_cell (j := 1) hbk0 rfl
    have y2 := block_cell (j := 2) hbk0 rfl
    have y3 := block_cell (j := 3) hbk0 rfl
    have y4 := block_cell (j := 4) hbk0 rfl
    have y5 := block_cell (j := 5) hbk0 rfl
    have y6 := block_cell (j := 6) hbk0 rfl
    clear hbk0 hrd0
    have q2 : rep0.phase = 0 := rfl
    have HE := HB4
    go_wp2_with fail
    go_ret
    exact ⟨rfl, HE.out⟩
  have hA := apart hz
  have hS := steps hz
  obtain ⟨hRr, hph, hck, _⟩ := prep_zero hz
  have HA := Lib.hid hA
  have HS := Lib.hid hS
  have Hck := Lib.hid hck
  have HRr := Lib.hid hRr
  by_cases ht0 : tryE r p = 0
  case neg =>
    have HT0 := Lib.hid ht0
    have HFE := Lib.hid (show finE (votedR (heldR r p)) true = tryE r p by rw [hS.1, if_pos ht0])
    have HFR := Lib.hid (show finR (votedR (heldR r p)) true = rep0 by unfold finR; rw [HFE.out, if_neg ht0])
    clear ht0
    clear hRr hph hck hA hS
    go_enter Tryz.func17, Tryz.ntmps17
    have HA1 := Lib.hid HA.out.a
    obtain ⟨sa0, sc0, ra0, rc0, oa0, oc0, ua0, uc0, hbk0, hrd0⟩ := HG1.out.1
    have y0 := block_cell (j := 0) hbk0 rfl
    have y1 := block_cell (j := 1) hbk0 rfl
    have y2 := block_cell (j := 2) hbk0 rfl
    have y3 := block_cell (j := 3) hbk0 rfl
    have y4 := block_cell (j := 4) hbk0 rfl
    have y5 := block_cell (j := 5) hbk0 rfl
    have y6 := block_cell (j := 6) hbk0 rfl
    obtain ⟨oaq, ocq, uaq, ucq, hbkq, hoq, huq⟩ := HQ1.out
    have z0 := block_cell (j := 0) hbkq rfl
    have z1 := block_cell (j := 1) hbkq rfl
    have z2 := block_cell (j := 2) hbkq rfl
    have HC := Lib.hid (prepare_any r p _ _ _ _ _ _ _ _ _ hrd0 hoq huq)
    rw [hz, HA1.out] at HC
    simp only [repV, pshV] at HC
    clear hbk0 hrd0 hbkq hoq huq
    go_wp2_with fail
    refine HC.out.mono ?_
    rintro e u2 ⟨sv5, rv5, ov5, uv5, rfl, hv, hb⟩
    obtain ⟨sa5, sc5, rfl⟩ := hv.store.vshape
    obtain ⟨⟨ra5, rc5⟩, rfl⟩ := hv.refs.shape
    obtain ⟨oa5, oc5, rfl⟩ := hv.objs.vshape
    obtain ⟨⟨ua5, uc5⟩, rfl⟩ := hv.upds.shape
    have hbA : Below u2.heap.size u2 (u2.alloc (.cells #[.slice sa5 (heldR r p).store.length sc5, .slice ra5 (heldR r p).refs.length rc5, .int .i64 (heldR r p).gen, .int .i64 (heldR r p).phase, .slice oa5 (heldR r p).pend.objects.length oc5, .slice ua5 (heldR r p).pend.updates.length uc5, .bool (heldR r p).pend.force] 28)) := (Below.refl _ _).alloc (Nat.le_refl _) _
    have HG2 := Lib.hid (show Bag (fun _ => True) (u2.alloc (.cells #[.slice sa5 (heldR r p).store.length sc5, .slice ra5 (heldR r p).refs.length rc5, .int .i64 (heldR r p).gen, .int .i64 (heldR r p).phase, .slice oa5 (heldR r p).pend.objects.length oc5, .slice ua5 (heldR r p).pend.updates.length uc5, .bool (heldR r p).pend.force] 28)) ((u2.heap.size, (heldR r p)) :: _) from ⟨⟨_, _, _, _, _, _, _, _, heap_alloc_new u2 _, (hv.below hbA).weaken fun _ _ => trivial⟩, (HG1.out.below hb).below hbA⟩)
    have HQ2 := Lib.hid ((HQ1.out.below hb).below hbA)
    have HB2 := Lib.hid (below_next (below_next HB1.out hb) hbA)
    clear hv hb hbA HC HB1 HG1 HQ1 y0 y1 y2 y3 y4 y5 y6 z0 z1 z2
    simp only [repV]
    have HC := Lib.hid (replicaBegun_any _ (HTw.out _ HB2.out))
    try simp only [repV, pshV] at HC
    go_wp2_with fail
    refine HC.out.mono ?_
    rintro e u3 ⟨rfl, hb⟩
    generalize u2.heap.size = D5 at *
    generalize u2.alloc (.cells #[.slice sa5 (heldR r p).store.length sc5, .slice ra5 (heldR r p).refs.length rc5, .int .i64 (heldR r p).gen, .int .i64 (heldR r p).phase, .slice oa5 (heldR r p).pend.objects.length oc5, .slice ua5 (heldR r p).pend.updates.length uc5, .bool (heldR r p).pend.force] 28) = x3 at *
    have HG3 := Lib.hid (HG2.out.below hb)
    have HQ3 := Lib.hid (HQ2.out.below hb)
    have HB3 := Lib.hid (below_next HB2.out hb)
    clear hb HC HG2 HQ2 HB2 
    have HC := Lib.hid (pushBegun_any u3)
    try simp only [repV, pshV] at HC
    go_wp2_with fail
    refine HC.out.mono ?_
    rintro e u4 ⟨rfl, hb⟩
    have HG4 := Lib.hid (HG3.out.below hb)
    have HQ4 := Lib.hid (HQ3.out.below hb)
    have HB4 := Lib.hid (below_next HB3.out hb)
    clear hb HC HG3 HQ3 HB3 
    obtain ⟨sa0, sc0, ra0, rc0, oa0, oc0, ua0, uc0, hbk0, hrd0⟩ := HG4.out.1
    have y0 := block_cell (j := 0) hbk0 rfl
    have y1 := block_cell (j := 1) hbk0 rfl
    have y2 := block_cell (j := 2) hbk0 rfl
    have y3 := block_cell (j := 3) hbk0 rfl
    have y4 := block_cell (j := 4) hbk0 rfl
    have y5 := block_cell (j := 5) hbk0 rfl
    have y6 := block_cell (j := 6) hbk0 rfl
    have HC := Lib.hid (vote_any (heldR r p) _ _ _ _ _ _ hrd0 (HTw.out _ HB4.out))
    rw [HA.out.vot.1, HA.out.vot.2.1, HA.out.vot.2.2] at HC
    simp only [repV] at HC
    clear hbk0 hrd0
    go_wp2_with fail
    refine HC.out.mono ?_
    rintro e u5 ⟨sv5, rv5, ov5, uv5, rfl, hv, hb⟩
    obtain ⟨sa5, sc5, rfl⟩ := hv.store.vshape
    obtain ⟨⟨ra5, rc5⟩, rfl⟩ := hv.refs.shape
    obtain ⟨oa5, oc5, rfl⟩ := hv.objs.vshape
    obtain ⟨⟨ua5, uc5⟩, rfl⟩ := hv.upds.shape
    have hbA : Below u5.heap.size u5 (u5.alloc (.cells #[.slice sa5 (votedR (heldR r p)).store.length sc5, .slice ra5 (votedR (heldR r p)).refs.length rc5, .int .i64 (votedR (heldR r p)).gen, .int .i64 (votedR (heldR r p)).phase, .slice oa5 (votedR (heldR r p)).pend.objects.length oc5, .slice ua5 (votedR (heldR r p)).pend.updates.length uc5, .bool (votedR (heldR r p)).pend.force] 28)) := (Below.refl _ _).alloc (Nat.le_refl _) _
    have HG5 := Lib.hid (show Bag (fun _ => True) (u5.alloc (.cells #[.slice sa5 (votedR (heldR r p)).store.length sc5, .slice ra5 (votedR (heldR r p)).refs.length rc5, .int .i64 (votedR (heldR r p)).gen, .int .i64 (votedR (heldR r p)).phase, .slice oa5 (votedR (heldR r p)).pend.objects.length oc5, .slice ua5 (votedR (heldR r p)).pend.updates.length uc5, .bool (votedR (heldR r p)).pend.force] 28)) ((u5.heap.size, (votedR (heldR r p))) :: _) from ⟨⟨_, _, _, _, _, _, _, _, heap_alloc_new u5 _, (hv.below hbA).weaken fun _ _ => trivial⟩, (HG4.out.below hb).below hbA⟩)
    have HQ5 := Lib.hid ((HQ4.out.below hb).below hbA)
    have HB5 := Lib.hid (below_next (below_next HB4.out hb) hbA)
    clear hv hb hbA HC HB4 HG4 HQ4 y0 y1 y2 y3 y4 y5 y6
    simp only [repV]
    obtain ⟨sa0, sc0, ra0, rc0, oa0, oc0, ua0, uc0, hbk0, hrd0⟩ := HG5.out.1
    have y0 := block_cell (j := 0) hbk0 rfl
    have y1 := block_cell (j := 1) hbk0 rfl
    have y2 := block_cell (j := 2) hbk0 rfl
    have y3 := block_cell (j := 3) hbk0 rfl
    have y4 := block_cell (j := 4) hbk0 rfl
    have y5 := block_cell (j := 5) hbk0 rfl
    have y6 := block_cell (j := 6) hbk0 rfl
    have HC := Lib.hid (finish_any (votedR (heldR r p)) true _ _ _ _ _ _ hrd0)
    rw [HFE.out, HFR.out] at HC
    simp only [repV] at HC
    clear hbk0 hrd0
    go_wp2_with fail
    refine HC.out.mono ?_
    rintro e u6 ⟨sv5, rv5, ov5, uv5, rfl, hv, hb⟩
    generalize u5.heap.size = D7 at *
    generalize u5.alloc (.cells #[.slice sa5 (votedR (heldR r p)).store.length sc5, .slice ra5 (votedR (heldR r p)).refs.length rc5, .int .i64 (votedR (heldR r p)).gen, .int .i64 (votedR (heldR r p)).phase, .slice oa5 (votedR (heldR r p)).pend.objects.length oc5, .slice ua5 (votedR (heldR r p)).pend.updates.length uc5, .bool (votedR (heldR r p)).pend.force] 28) = x6 at *
    obtain ⟨sa5, sc5, rfl⟩ := hv.store.vshape
    obtain ⟨⟨ra5, rc5⟩, rfl⟩ := hv.refs.shape
    obtain ⟨oa5, oc5, rfl⟩ := hv.objs.vshape
    obtain ⟨⟨ua5, uc5⟩, rfl⟩ := hv.upds.shape
    have hbA : Below u6.heap.size u6 (u6.alloc (.cells #[.slice sa5 rep0.store.length sc5, .slice ra5 rep0.refs.length rc5, .int .i64 rep0.gen, .int .i64 rep0.phase, .slice oa5 rep0.pend.objects.length oc5, .slice ua5 rep0.pend.updates.length uc5, .bool rep0.pend.force] 28)) := (Below.refl _ _).alloc (Nat.le_refl _) _
    have HG6 := Lib.hid (show Bag (fun _ => True) (u6.alloc (.cells #[.slice sa5 rep0.store.length sc5, .slice ra5 rep0.refs.length rc5, .int .i64 rep0.gen, .int .i64 rep0.phase, .slice oa5 rep0.pend.objects.length oc5, .slice ua5 rep0.pend.updates.length uc5, .bool rep0.pend.force] 28)) ((u6.heap.size, rep0) :: _) from ⟨⟨_, _, _, _, _, _, _, _, heap_alloc_new u6 _, (hv.below hbA).weaken fun _ _ => trivial⟩, (HG5.out.below hb).below hbA⟩)
    have HQ6 := Lib.hid ((HQ5.out.below hb).below hbA)
    have HB6 := Lib.hid (below_next (below_next HB5.out hb) hbA)
    clear hv hb hbA HC HB5 HG5 HQ5 y0 y1 y2 y3 y4 y5 y6
    simp only [repV]
    obtain ⟨sa0, sc0, ra0, rc0, oa0, oc0, ua0, uc0, hbk0, hrd0⟩ := HG6.out.2.2.2.1
    have y0 := block_cell (j := 0) hbk0 rfl
    have y1 := block_cell (j := 1) hbk0 rfl
    have y2 := block_cell (j := 2) hbk0 rfl
    have y3 := block_cell (j := 3) hbk0 rfl
    have y4 := block_cell (j := 4) hbk0 rfl
    have y5 := block_cell (j := 5) hbk0 rfl
    have y6 := block_cell (j := 6) hbk0 rfl
    obtain ⟨oaq, ocq, uaq, ucq, hbkq, hoq, huq⟩ := HQ6.out
    have z0 := block_cell (j := 0) hbkq rfl
    have z1 := block_cell (j := 1) hbkq rfl
    have z2 := block_cell (j := 2) hbkq rfl
    have HC := Lib.hid (pushTry_any r p _ _ _ _ _ _ _ _ _ _ _ hrd0.store hrd0.refs hoq huq ⟨StoreV.shape3 hrd0.objs, MvsV.shape3 hrd0.upds⟩)
    rw [if_pos Hck.out, if_pos Hck.out, if_pos Hck.out] at HC
    clear hbk0 hrd0 hbkq hoq huq
    go_wp2_with fail
    refine HC.out.mono ?_
    rintro e u7 ⟨v9, m9, rfl, hv9, hm9, hb⟩
    generalize u6.heap.size = D10 at *
    generalize u6.alloc (.cells #[.slice sa5 rep0.store.length sc5, .slice ra5 rep0.refs.length rc5, .int .i64 rep0.gen, .int .i64 rep0.phase, .slice oa5 rep0.pend.objects.length oc5, .slice ua5 rep0.pend.updates.length uc5, .bool rep0.pend.force] 28) = x7 at *
    obtain ⟨va, vc, rfl⟩ := hv9.vshape
    obtain ⟨⟨ma, mc⟩, rfl⟩ := hm9.shape
    have Hv9 := Lib.hid hv9
    have Hm9 := Lib.hid hm9
    have HG7 := Lib.hid (HG6.out.below hb)
    have HQ7 := Lib.hid (HQ6.out.below hb)
    have HB7 := Lib.hid (below_next HB6.out hb)
    clear hb HC HG6 HQ6 HB6 hv9 hm9 z0 z1 z2 y0 y1 y2 y3 y4 y5 y6
    have hvs := vote_no HT0.out
    have hcut := no_cut HT0.out
    have q5 : (tryE r p != 0) = true := by simpa using HT0.out
    generalize voteR r p = VS at *
    generalize tryE r p = c at *
    have q6 : decide ((3 : Int) < (VS.size : Int)) = true := by rw [hvs]; decide
    have q7 : (3 : Int) ≤ (VS.size : Int) := by rw [hvs]; decide
    have q8 : ((VS.extract 0 3).toList == [110, 111, 32]) = true := by rw [hcut]; rfl
    have q9 : (c == c) = true := by simp
    clear hvs hcut
    have HE := HB7
    go_wp2_with fail
    go_ret
    exact ⟨rfl, HE.out⟩
  have HT0 := Lib.hid ht0
  by_cases hg : r.gen = 999
  case pos =>
    have HFE := Lib.hid (show finE (votedR (heldR r p)) true = 2 by rw [hS.1, if_neg (by simpa using ht0), if_pos hg])
    have HFR := Lib.hid (show finR (votedR (heldR r p)) true = rep0 by unfold finR; rw [HFE.out]; rfl)
    have q0 : (tryE r p != 0) = false := by simpa using ht0
    have Hg := Lib.hid hg
    clear ht0 hg
    clear hRr hph hck hA hS
    go_enter Tryz.func17, Tryz.ntmps17
    have HA1 := Lib.hid HA.out.a
    obtain ⟨sa0, sc0, ra0, rc0, oa0, oc0, ua0, uc0, hbk0, hrd0⟩ := HG1.out.1
    have y0 := block_cell (j := 0) hbk0 rfl
    have y1 := block_cell (j := 1) hbk0 rfl
    have y2 := block_cell (j := 2) hbk0 rfl
    have y3 := block_cell (j := 3) hbk0 rfl
    have y4 := block_cell (j := 4) hbk0 rfl
    have y5 := block_cell (j := 5) hbk0 rfl
    have y6 := block_cell (j := 6) hbk0 rfl
    obtain ⟨oaq, ocq, uaq, ucq, hbkq, hoq, huq⟩ := HQ1.out
    have z0 := block_cell (j := 0) hbkq rfl
    have z1 := block_cell (j := 1) hbkq rfl
    have z2 := block_cell (j := 2) hbkq rfl
    have HC := Lib.hid (prepare_any r p _ _ _ _ _ _ _ _ _ hrd0 hoq huq)
    rw [hz, HA1.out] at HC
    simp only [repV, pshV] at HC
    clear hbk0 hrd0 hbkq hoq huq
    go_wp2_with fail
    refine HC.out.mono ?_
    rintro e u2 ⟨sv5, rv5, ov5, uv5, rfl, hv, hb⟩
    obtain ⟨sa5, sc5, rfl⟩ := hv.store.vshape
    obtain ⟨⟨ra5, rc5⟩, rfl⟩ := hv.refs.shape
    obtain ⟨oa5, oc5, rfl⟩ := hv.objs.vshape
    obtain ⟨⟨ua5, uc5⟩, rfl⟩ := hv.upds.shape
    have hbA : Below u2.heap.size u2 (u2.alloc (.cells #[.slice sa5 (heldR r p).store.length sc5, .slice ra5 (heldR r p).refs.length rc5, .int .i64 (heldR r p).gen, .int .i64 (heldR r p).phase, .slice oa5 (heldR r p).pend.objects.length oc5, .slice ua5 (heldR r p).pend.updates.length uc5, .bool (heldR r p).pend.force] 28)) := (Below.refl _ _).alloc (Nat.le_refl _) _
    have HG2 := Lib.hid (show Bag (fun _ => True) (u2.alloc (.cells #[.slice sa5 (heldR r p).store.length sc5, .slice ra5 (heldR r p).refs.length rc5, .int .i64 (heldR r p).gen, .int .i64 (heldR r p).phase, .slice oa5 (heldR r p).pend.objects.length oc5, .slice ua5 (heldR r p).pend.updates.length uc5, .bool (heldR r p).pend.force] 28)) ((u2.heap.size, (heldR r p)) :: _) from ⟨⟨_, _, _, _, _, _, _, _, heap_alloc_new u2 _, (hv.below hbA).weaken fun _ _ => trivial⟩, (HG1.out.below hb).below hbA⟩)
    have HQ2 := Lib.hid ((HQ1.out.below hb).below hbA)
    have HB2 := Lib.hid (below_next (below_next HB1.out hb) hbA)
    clear hv hb hbA HC HB1 HG1 HQ1 y0 y1 y2 y3 y4 y5 y6 z0 z1 z2
    simp only [repV]
    have HC := Lib.hid (replicaBegun_any _ (HTw.out _ HB2.out))
    try simp only [repV, pshV] at HC
    go_wp2_with fail
    refine HC.out.mono ?_
    rintro e u3 ⟨rfl, hb⟩
    generalize u2.heap.size = D5 at *
    generalize u2.alloc (.cells #[.slice sa5 (heldR r p).store.length sc5, .slice ra5 (heldR r p).refs.length rc5, .int .i64 (heldR r p).gen, .int .i64 (heldR r p).phase, .slice oa5 (heldR r p).pend.objects.length oc5, .slice ua5 (heldR r p).pend.updates.length uc5, .bool (heldR r p).pend.force] 28) = x3 at *
    have HG3 := Lib.hid (HG2.out.below hb)
    have HQ3 := Lib.hid (HQ2.out.below hb)
    have HB3 := Lib.hid (below_next HB2.out hb)
    clear hb HC HG2 HQ2 HB2 
    have HC := Lib.hid (pushBegun_any u3)
    try simp only [repV, pshV] at HC
    go_wp2_with fail
    refine HC.out.mono ?_
    rintro e u4 ⟨rfl, hb⟩
    have HG4 := Lib.hid (HG3.out.below hb)
    have HQ4 := Lib.hid (HQ3.out.below hb)
    have HB4 := Lib.hid (below_next HB3.out hb)
    clear hb HC HG3 HQ3 HB3 
    obtain ⟨sa0, sc0, ra0, rc0, oa0, oc0, ua0, uc0, hbk0, hrd0⟩ := HG4.out.1
    have y0 := block_cell (j := 0) hbk0 rfl
    have y1 := block_cell (j := 1) hbk0 rfl
    have y2 := block_cell (j := 2) hbk0 rfl
    have y3 := block_cell (j := 3) hbk0 rfl
    have y4 := block_cell (j := 4) hbk0 rfl
    have y5 := block_cell (j := 5) hbk0 rfl
    have y6 := block_cell (j := 6) hbk0 rfl
    have HC := Lib.hid (vote_any (heldR r p) _ _ _ _ _ _ hrd0 (HTw.out _ HB4.out))
    rw [HA.out.vot.1, HA.out.vot.2.1, HA.out.vot.2.2] at HC
    simp only [repV] at HC
    clear hbk0 hrd0
    go_wp2_with fail
    refine HC.out.mono ?_
    rintro e u5 ⟨sv5, rv5, ov5, uv5, rfl, hv, hb⟩
    obtain ⟨sa5, sc5, rfl⟩ := hv.store.vshape
    obtain ⟨⟨ra5, rc5⟩, rfl⟩ := hv.refs.shape
    obtain ⟨oa5, oc5, rfl⟩ := hv.objs.vshape
    obtain ⟨⟨ua5, uc5⟩, rfl⟩ := hv.upds.shape
    have hbA : Below u5.heap.size u5 (u5.alloc (.cells #[.slice sa5 (votedR (heldR r p)).store.length sc5, .slice ra5 (votedR (heldR r p)).refs.length rc5, .int .i64 (votedR (heldR r p)).gen, .int .i64 (votedR (heldR r p)).phase, .slice oa5 (votedR (heldR r p)).pend.objects.length oc5, .slice ua5 (votedR (heldR r p)).pend.updates.length uc5, .bool (votedR (heldR r p)).pend.force] 28)) := (Below.refl _ _).alloc (Nat.le_refl _) _
    have HG5 := Lib.hid (show Bag (fun _ => True) (u5.alloc (.cells #[.slice sa5 (votedR (heldR r p)).store.length sc5, .slice ra5 (votedR (heldR r p)).refs.length rc5, .int .i64 (votedR (heldR r p)).gen, .int .i64 (votedR (heldR r p)).phase, .slice oa5 (votedR (heldR r p)).pend.objects.length oc5, .slice ua5 (votedR (heldR r p)).pend.updates.length uc5, .bool (votedR (heldR r p)).pend.force] 28)) ((u5.heap.size, (votedR (heldR r p))) :: _) from ⟨⟨_, _, _, _, _, _, _, _, heap_alloc_new u5 _, (hv.below hbA).weaken fun _ _ => trivial⟩, (HG4.out.below hb).below hbA⟩)
    have HQ5 := Lib.hid ((HQ4.out.below hb).below hbA)
    have HB5 := Lib.hid (below_next (below_next HB4.out hb) hbA)
    clear hv hb hbA HC HB4 HG4 HQ4 y0 y1 y2 y3 y4 y5 y6
    simp only [repV]
    obtain ⟨sa0, sc0, ra0, rc0, oa0, oc0, ua0, uc0, hbk0, hrd0⟩ := HG5.out.1
    have y0 := block_cell (j := 0) hbk0 rfl
    have y1 := block_cell (j := 1) hbk0 rfl
    have y2 := block_cell (j := 2) hbk0 rfl
    have y3 := block_cell (j := 3) hbk0 rfl
    have y4 := block_cell (j := 4) hbk0 rfl
    have y5 := block_cell (j := 5) hbk0 rfl
    have y6 := block_cell (j := 6) hbk0 rfl
    have HC := Lib.hid (finish_any (votedR (heldR r p)) true _ _ _ _ _ _ hrd0)
    rw [HFE.out, HFR.out] at HC
    simp only [repV] at HC
    clear hbk0 hrd0
    go_wp2_with fail
    refine HC.out.mono ?_
    rintro e u6 ⟨sv5, rv5, ov5, uv5, rfl, hv, hb⟩
    generalize u5.heap.size = D7 at *
    generalize u5.alloc (.cells #[.slice sa5 (votedR (heldR r p)).store.length sc5, .slice ra5 (votedR (heldR r p)).refs.length rc5, .int .i64 (votedR (heldR r p)).gen, .int .i64 (votedR (heldR r p)).phase, .slice oa5 (votedR (heldR r p)).pend.objects.length oc5, .slice ua5 (votedR (heldR r p)).pend.updates.length uc5, .bool (votedR (heldR r p)).pend.force] 28) = x6 at *
    obtain ⟨sa5, sc5, rfl⟩ := hv.store.vshape
    obtain ⟨⟨ra5, rc5⟩, rfl⟩ := hv.refs.shape
    obtain ⟨oa5, oc5, rfl⟩ := hv.objs.vshape
    obtain ⟨⟨ua5, uc5⟩, rfl⟩ := hv.upds.shape
    have hbA : Below u6.heap.size u6 (u6.alloc (.cells #[.slice sa5 rep0.store.length sc5, .slice ra5 rep0.refs.length rc5, .int .i64 rep0.gen, .int .i64 rep0.phase, .slice oa5 rep0.pend.objects.length oc5, .slice ua5 rep0.pend.updates.length uc5, .bool rep0.pend.force] 28)) := (Below.refl _ _).alloc (Nat.le_refl _) _
    have HG6 := Lib.hid (show Bag (fun _ => True) (u6.alloc (.cells #[.slice sa5 rep0.store.length sc5, .slice ra5 rep0.refs.length rc5, .int .i64 rep0.gen, .int .i64 rep0.phase, .slice oa5 rep0.pend.objects.length oc5, .slice ua5 rep0.pend.updates.length uc5, .bool rep0.pend.force] 28)) ((u6.heap.size, rep0) :: _) from ⟨⟨_, _, _, _, _, _, _, _, heap_alloc_new u6 _, (hv.below hbA).weaken fun _ _ => trivial⟩, (HG5.out.below hb).below hbA⟩)
    have HQ6 := Lib.hid ((HQ5.out.below hb).below hbA)
    have HB6 := Lib.hid (below_next (below_next HB5.out hb) hbA)
    clear hv hb hbA HC HB5 HG5 HQ5 y0 y1 y2 y3 y4 y5 y6
    simp only [repV]
    obtain ⟨sa0, sc0, ra0, rc0, oa0, oc0, ua0, uc0, hbk0, hrd0⟩ := HG6.out.2.2.2.1
    have y0 := block_cell (j := 0) hbk0 rfl
    have y1 := block_cell (j := 1) hbk0 rfl
    have y2 := block_cell (j := 2) hbk0 rfl
    have y3 := block_cell (j := 3) hbk0 rfl
    have y4 := block_cell (j := 4) hbk0 rfl
    have y5 := block_cell (j := 5) hbk0 rfl
    have y6 := block_cell (j := 6) hbk0 rfl
    obtain ⟨oaq, ocq, uaq, ucq, hbkq, hoq, huq⟩ := HQ6.out
    have z0 := block_cell (j := 0) hbkq rfl
    have z1 := block_cell (j := 1) hbkq rfl
    have z2 := block_cell (j := 2) hbkq rfl
    have HC := Lib.hid (pushTry_any r p _ _ _ _ _ _ _ _ _ _ _ hrd0.store hrd0.refs hoq huq ⟨StoreV.shape3 hrd0.objs, MvsV.shape3 hrd0.upds⟩)
    rw [if_pos Hck.out, if_pos Hck.out, if_pos Hck.out] at HC
    clear hbk0 hrd0 hbkq hoq huq
    go_wp2_with fail
    refine HC.out.mono ?_
    rintro e u7 ⟨v9, m9, rfl, hv9, hm9, hb⟩
    generalize u6.heap.size = D10 at *
    generalize u6.alloc (.cells #[.slice sa5 rep0.store.length sc5, .slice ra5 rep0.refs.length rc5, .int .i64 rep0.gen, .int .i64 rep0.phase, .slice oa5 rep0.pend.objects.length oc5, .slice ua5 rep0.pend.updates.length uc5, .bool rep0.pend.force] 28) = x7 at *
    obtain ⟨va, vc, rfl⟩ := hv9.vshape
    obtain ⟨⟨ma, mc⟩, rfl⟩ := hm9.shape
    have Hv9 := Lib.hid hv9
    have Hm9 := Lib.hid hm9
    have HG7 := Lib.hid (HG6.out.below hb)
    have HQ7 := Lib.hid (HQ6.out.below hb)
    have HB7 := Lib.hid (below_next HB6.out hb)
    clear hb HC HG6 HQ6 HB6 hv9 hm9 z0 z1 z2 y0 y1 y2 y3 y4 y5 y6
    obtain ⟨sa0, sc0, ra0, rc0, oa0, oc0, ua0, uc0, hbk0, hrd0⟩ := HG7.out.2.2.2.1
    have y0 := block_cell (j := 0) hbk0 rfl
    have y1 := block_cell (j := 1) hbk0 rfl
    have y2 := block_cell (j := 2) hbk0 rfl
    have y3 := block_cell (j := 3) hbk0 rfl
    have y4 := block_cell (j := 4) hbk0 rfl
    have y5 := block_cell (j := 5) hbk0 rfl
    have y6 := block_cell (j := 6) hbk0 rfl
    clear hbk0 hrd0
    have q5 : (r.gen == 999) = true := by simpa using Hg.out
    have HE := HB7
    go_wp2_with fail
    go_ret
    exact ⟨rfl, HE.out⟩
  have HFE := Lib.hid (show finE (votedR (heldR r p)) true = 0 by rw [hS.1, if_neg (by simpa using ht0), if_neg hg])
  have HFR := Lib.hid (hS.2 ht0 hg).1
  have HFC := Lib.hid (hS.2 ht0 hg).2
  have Hg := Lib.hid hg
  clear ht0 hg
  clear hRr hph hck hA hS
  go_enter Tryz.func17, Tryz.ntmps17
  have HA1 := Lib.hid HA.out.a
  obtain ⟨sa0, sc0, ra0, rc0, oa0, oc0, ua0, uc0, hbk0, hrd0⟩ := HG1.out.1
  have y0 := block_cell (j := 0) hbk0 rfl
  have y1 := block_cell (j := 1) hbk0 rfl
  have y2 := block_cell (j := 2) hbk0 rfl
  have y3 := block_cell (j := 3) hbk0 rfl
  have y4 := block_cell (j := 4) hbk0 rfl
  have y5 := block_cell (j := 5) hbk0 rfl
  have y6 := block_cell (j := 6) hbk0 rfl
  obtain ⟨oaq, ocq, uaq, ucq, hbkq, hoq, huq⟩ := HQ1.out
  have z0 := block_cell (j := 0) hbkq rfl
  have z1 := block_cell (j := 1) hbkq rfl
  have z2 := block_cell (j := 2) hbkq rfl
  have HC := Lib.hid (prepare_any r p _ _ _ _ _ _ _ _ _ hrd0 hoq huq)
  rw [hz, HA1.out] at HC
  simp only [repV, pshV] at HC
  clear hbk0 hrd0 hbkq hoq huq
  go_wp2_with fail
  refine HC.out.mono ?_
  rintro e u2 ⟨sv5, rv5, ov5, uv5, rfl, hv, hb⟩
  obtain ⟨sa5, sc5, rfl⟩ := hv.store.vshape
  obtain ⟨⟨ra5, rc5⟩, rfl⟩ := hv.refs.shape
  obtain ⟨oa5, oc5, rfl⟩ := hv.objs.vshape
  obtain ⟨⟨ua5, uc5⟩, rfl⟩ := hv.upds.shape
  have hbA : Below u2.heap.size u2 (u2.alloc (.cells #[.slice sa5 (heldR r p).store.length sc5, .slice ra5 (heldR r p).refs.length rc5, .int .i64 (heldR r p).gen, .int .i64 (heldR r p).phase, .slice oa5 (heldR r p).pend.objects.length oc5, .slice ua5 (heldR r p).pend.updates.length uc5, .bool (heldR r p).pend.force] 28)) := (Below.refl _ _).alloc (Nat.le_refl _) _
  have HG2 := Lib.hid (show Bag (fun _ => True) (u2.alloc (.cells #[.slice sa5 (heldR r p).store.length sc5, .slice ra5 (heldR r p).refs.length rc5, .int .i64 (heldR r p).gen, .int .i64 (heldR r p).phase, .slice oa5 (heldR r p).pend.objects.length oc5, .slice ua5 (heldR r p).pend.updates.length uc5, .bool (heldR r p).pend.force] 28)) ((u2.heap.size, (heldR r p)) :: _) from ⟨⟨_, _, _, _, _, _, _, _, heap_alloc_new u2 _, (hv.below hbA).weaken fun _ _ => trivial⟩, (HG1.out.below hb).below hbA⟩)
  have HQ2 := Lib.hid ((HQ1.out.below hb).below hbA)
  have HB2 := Lib.hid (below_next (below_next HB1.out hb) hbA)
  clear hv hb hbA HC HB1 HG1 HQ1 y0 y1 y2 y3 y4 y5 y6 z0 z1 z2
  simp only [repV]
  have HC := Lib.hid (replicaBegun_any _ (HTw.out _ HB2.out))
  try simp only [repV, pshV] at HC
  go_wp2_with fail
  refine HC.out.mono ?_
  rintro e u3 ⟨rfl, hb⟩
  generalize u2.heap.size = D5 at *
  generalize u2.alloc (.cells #[.slice sa5 (heldR r p).store.length sc5, .slice ra5 (heldR r p).refs.length rc5, .int .i64 (heldR r p).gen, .int .i64 (heldR r p).phase, .slice oa5 (heldR r p).pend.objects.length oc5, .slice ua5 (heldR r p).pend.updates.length uc5, .bool (heldR r p).pend.force] 28) = x3 at *
  have HG3 := Lib.hid (HG2.out.below hb)
  have HQ3 := Lib.hid (HQ2.out.below hb)
  have HB3 := Lib.hid (below_next HB2.out hb)
  clear hb HC HG2 HQ2 HB2 
  have HC := Lib.hid (pushBegun_any u3)
  try simp only [repV, pshV] at HC
  go_wp2_with fail
  refine HC.out.mono ?_
  rintro e u4 ⟨rfl, hb⟩
  have HG4 := Lib.hid (HG3.out.below hb)
  have HQ4 := Lib.hid (HQ3.out.below hb)
  have HB4 := Lib.hid (below_next HB3.out hb)
  clear hb HC HG3 HQ3 HB3 
  obtain ⟨sa0, sc0, ra0, rc0, oa0, oc0, ua0, uc0, hbk0, hrd0⟩ := HG4.out.1
  have y0 := block_cell (j := 0) hbk0 rfl
  have y1 := block_cell (j := 1) hbk0 rfl
  have y2 := block_cell (j := 2) hbk0 rfl
  have y3 := block_cell (j := 3) hbk0 rfl
  have y4 := block_cell (j := 4) hbk0 rfl
  have y5 := block_cell (j := 5) hbk0 rfl
  have y6 := block_cell (j := 6) hbk0 rfl
  have HC := Lib.hid (vote_any (heldR r p) _ _ _ _ _ _ hrd0 (HTw.out _ HB4.out))
  rw [HA.out.vot.1, HA.out.vot.2.1, HA.out.vot.2.2] at HC
  simp only [repV] at HC
  clear hbk0 hrd0
  go_wp2_with fail
  refine HC.out.mono ?_
  rintro e u5 ⟨sv5, rv5, ov5, uv5, rfl, hv, hb⟩
  obtain ⟨sa5, sc5, rfl⟩ := hv.store.vshape
  obtain ⟨⟨ra5, rc5⟩, rfl⟩ := hv.refs.shape
  obtain ⟨oa5, oc5, rfl⟩ := hv.objs.vshape
  obtain ⟨⟨ua5, uc5⟩, rfl⟩ := hv.upds.shape
  have hbA : Below u5.heap.size u5 (u5.alloc (.cells #[.slice sa5 (votedR (heldR r p)).store.length sc5, .slice ra5 (votedR (heldR r p)).refs.length rc5, .int .i64 (votedR (heldR r p)).gen, .int .i64 (votedR (heldR r p)).phase, .slice oa5 (votedR (heldR r p)).pend.objects.length oc5, .slice ua5 (votedR (heldR r p)).pend.updates.length uc5, .bool (votedR (heldR r p)).pend.force] 28)) := (Below.refl _ _).alloc (Nat.le_refl _) _
  have HG5 := Lib.hid (show Bag (fun _ => True) (u5.alloc (.cells #[.slice sa5 (votedR (heldR r p)).store.length sc5, .slice ra5 (votedR (heldR r p)).refs.length rc5, .int .i64 (votedR (heldR r p)).gen, .int .i64 (votedR (heldR r p)).phase, .slice oa5 (votedR (heldR r p)).pend.objects.length oc5, .slice ua5 (votedR (heldR r p)).pend.updates.length uc5, .bool (votedR (heldR r p)).pend.force] 28)) ((u5.heap.size, (votedR (heldR r p))) :: _) from ⟨⟨_, _, _, _, _, _, _, _, heap_alloc_new u5 _, (hv.below hbA).weaken fun _ _ => trivial⟩, (HG4.out.below hb).below hbA⟩)
  have HQ5 := Lib.hid ((HQ4.out.below hb).below hbA)
  have HB5 := Lib.hid (below_next (below_next HB4.out hb) hbA)
  clear hv hb hbA HC HB4 HG4 HQ4 y0 y1 y2 y3 y4 y5 y6
  simp only [repV]
  obtain ⟨sa0, sc0, ra0, rc0, oa0, oc0, ua0, uc0, hbk0, hrd0⟩ := HG5.out.1
  have y0 := block_cell (j := 0) hbk0 rfl
  have y1 := block_cell (j := 1) hbk0 rfl
  have y2 := block_cell (j := 2) hbk0 rfl
  have y3 := block_cell (j := 3) hbk0 rfl
  have y4 := block_cell (j := 4) hbk0 rfl
  have y5 := block_cell (j := 5) hbk0 rfl
  have y6 := block_cell (j := 6) hbk0 rfl
  have HC := Lib.hid (finish_any (votedR (heldR r p)) true _ _ _ _ _ _ hrd0)
  rw [HFE.out, HFR.out] at HC
  simp only [repV] at HC
  clear hbk0 hrd0
  go_wp2_with fail
  refine HC.out.mono ?_
  rintro e u6 ⟨sv5, rv5, ov5, uv5, rfl, hv, hb⟩
  generalize u5.heap.size = D7 at *
  generalize u5.alloc (.cells #[.slice sa5 (votedR (heldR r p)).store.length sc5, .slice ra5 (votedR (heldR r p)).refs.length rc5, .int .i64 (votedR (heldR r p)).gen, .int .i64 (votedR (heldR r p)).phase, .slice oa5 (votedR (heldR r p)).pend.objects.length oc5, .slice ua5 (votedR (heldR r p)).pend.updates.length uc5, .bool (votedR (heldR r p)).pend.force] 28) = x6 at *
  obtain ⟨sa5, sc5, rfl⟩ := hv.store.vshape
  obtain ⟨⟨ra5, rc5⟩, rfl⟩ := hv.refs.shape
  obtain ⟨oa5, oc5, rfl⟩ := hv.objs.vshape
  obtain ⟨⟨ua5, uc5⟩, rfl⟩ := hv.upds.shape
  have hbA : Below u6.heap.size u6 (u6.alloc (.cells #[.slice sa5 (doneR r p).store.length sc5, .slice ra5 (doneR r p).refs.length rc5, .int .i64 (doneR r p).gen, .int .i64 (doneR r p).phase, .slice oa5 (doneR r p).pend.objects.length oc5, .slice ua5 (doneR r p).pend.updates.length uc5, .bool (doneR r p).pend.force] 28)) := (Below.refl _ _).alloc (Nat.le_refl _) _
  have HG6 := Lib.hid (show Bag (fun _ => True) (u6.alloc (.cells #[.slice sa5 (doneR r p).store.length sc5, .slice ra5 (doneR r p).refs.length rc5, .int .i64 (doneR r p).gen, .int .i64 (doneR r p).phase, .slice oa5 (doneR r p).pend.objects.length oc5, .slice ua5 (doneR r p).pend.updates.length uc5, .bool (doneR r p).pend.force] 28)) ((u6.heap.size, (doneR r p)) :: _) from ⟨⟨_, _, _, _, _, _, _, _, heap_alloc_new u6 _, (hv.below hbA).weaken fun _ _ => trivial⟩, (HG5.out.below hb).below hbA⟩)
  have HQ6 := Lib.hid ((HQ5.out.below hb).below hbA)
  have HB6 := Lib.hid (below_next (below_next HB5.out hb) hbA)
  clear hv hb hbA HC HB5 HG5 HQ5 y0 y1 y2 y3 y4 y5 y6
  simp only [repV]
  obtain ⟨sa0, sc0, ra0, rc0, oa0, oc0, ua0, uc0, hbk0, hrd0⟩ := HG6.out.2.2.2.1
  have y0 := block_cell (j := 0) hbk0 rfl
  have y1 := block_cell (j := 1) hbk0 rfl
  have y2 := block_cell (j := 2) hbk0 rfl
  have y3 := block_cell (j := 3) hbk0 rfl
  have y4 := block_cell (j := 4) hbk0 rfl
  have y5 := block_cell (j := 5) hbk0 rfl
  have y6 := block_cell (j := 6) hbk0 rfl
  obtain ⟨oaq, ocq, uaq, ucq, hbkq, hoq, huq⟩ := HQ6.out
  have z0 := block_cell (j := 0) hbkq rfl
  have z1 := block_cell (j := 1) hbkq rfl
  have z2 := block_cell (j := 2) hbkq rfl
  have HC := Lib.hid (pushTry_any r p _ _ _ _ _ _ _ _ _ _ _ hrd0.store hrd0.refs hoq huq ⟨StoreV.shape3 hrd0.objs, MvsV.shape3 hrd0.upds⟩)
  rw [if_pos Hck.out, if_pos Hck.out, if_pos Hck.out] at HC
  rw [HT0.out] at HC
  clear hbk0 hrd0 hbkq hoq huq
  go_wp2_with fail
  refine HC.out.mono ?_
  rintro e u7 ⟨v9, m9, rfl, hv9, hm9, hb⟩
  generalize u6.heap.size = D10 at *
  generalize u6.alloc (.cells #[.slice sa5 (doneR r p).store.length sc5, .slice ra5 (doneR r p).refs.length rc5, .int .i64 (doneR r p).gen, .int .i64 (doneR r p).phase, .slice oa5 (doneR r p).pend.objects.length oc5, .slice ua5 (doneR r p).pend.updates.length uc5, .bool (doneR r p).pend.force] 28) = x7 at *
  obtain ⟨va, vc, rfl⟩ := hv9.vshape
  obtain ⟨⟨ma, mc⟩, rfl⟩ := hm9.shape
  have Hv9 := Lib.hid hv9
  have Hm9 := Lib.hid hm9
  have HG7 := Lib.hid (HG6.out.below hb)
  have HQ7 := Lib.hid (HQ6.out.below hb)
  have HB7 := Lib.hid (below_next HB6.out hb)
  clear hb HC HG6 HQ6 HB6 hv9 hm9 z0 z1 z2 y0 y1 y2 y3 y4 y5 y6
  obtain ⟨hv1, hv2⟩ := vote_yes HT0.out
  have q6 : decide ((4 : Int) < ((voteR r p).size : Int)) = true := by simp; omega
  have q7 : (4 : Int) ≤ ((voteR r p).size : Int) := by omega
  have q8 : (((voteR r p).extract 0 4).toList == [121, 101, 115, 32]) = true := by rw [hv2]; rfl
  clear hv1 hv2
  generalize voteR r p = VS at *
  have q5 : (r.gen == 999) = false := by simpa using Hg.out
  have hwr := wrap_in (n := r.gen + 1) (by have := HRr.out.gen; omega)
  have q9 : ((doneR r p).gen == r.gen + 1) = true := by simp [doneR]
  have q10 : ((doneR r p).phase == 0) = true := rfl
  have q11 : (doneR r p).phase = 0 := rfl
  have q12 : (doneR r p).gen = r.gen + 1 := rfl
  obtain ⟨sa2, sc2, ra2, rc2, oa2, oc2, ua2, uc2, hbk2, hrd2⟩ := HG7.out.2.2.2.1
  have t0 := block_cell (j := 0) hbk2 rfl
  have t1 := block_cell (j := 1) hbk2 rfl
  have t2 := block_cell (j := 2) hbk2 rfl
  have t3 := block_cell (j := 3) hbk2 rfl
  have t4 := block_cell (j := 4) hbk2 rfl
  have t5 := block_cell (j := 5) hbk2 rfl
  have t6 := block_cell (j := 6) hbk2 rfl
  clear hbk2 hrd2
  obtain ⟨sa0, sc0, ra0, rc0, oa0, oc0, ua0, uc0, hbk0, hrd0⟩ := HG7.out.1
  have y0 := block_cell (j := 0) hbk0 rfl
  have y1 := block_cell (j := 1) hbk0 rfl
  have y2 := block_cell (j := 2) hbk0 rfl
  have y3 := block_cell (j := 3) hbk0 rfl
  have y4 := block_cell (j := 4) hbk0 rfl
  have y5 := block_cell (j := 5) hbk0 rfl
  have y6 := block_cell (j := 6) hbk0 rfl
  have HC := Lib.hid (repCheck_any (doneR r p) _ _ _ _ _ _ hrd0)
  rw [HFC.out] at HC
  try simp only [repV, pshV] at HC
  clear hbk0 hrd0
  go_wp2_with fail
  refine HC.out.mono ?_
  rintro e u8 ⟨rfl, hb⟩
  have HG8 := Lib.hid (HG7.out.below hb)
  have HQ8 := Lib.hid (HQ7.out.below hb)
  have HB8 := Lib.hid (below_next HB7.out hb)
  replace Hv9 := Lib.hid (Hv9.out.below hb)
  replace Hm9 := Lib.hid (Hm9.out.below hb)
  clear hb HC HG7 HQ7 HB7 y0 y1 y2 y3 y4 y5 y6 t0 t1 t2 t3 t4 t5 t6
  obtain ⟨sa2, sc2, ra2, rc2, oa2, oc2, ua2, uc2, hbk2, hrd2⟩ := HG8.out.2.2.2.1
  have t0 := block_cell (j := 0) hbk2 rfl
  have t1 := block_cell (j := 1) hbk2 rfl
  have t2 := block_cell (j := 2) hbk2 rfl
  have t3 := block_cell (j := 3) hbk2 rfl
  have t4 := block_cell (j := 4) hbk2 rfl
  have t5 := block_cell (j := 5) hbk2 rfl
  have t6 := block_cell (j := 6) hbk2 rfl
  clear hbk2 hrd2
  obtain ⟨sa0, sc0, ra0, rc0, oa0, oc0, ua0, uc0, hbk0, hrd0⟩ := HG8.out.1
  have y0 := block_cell (j := 0) hbk0 rfl
  have y1 := block_cell (j := 1) hbk0 rfl
  have y2 := block_cell (j := 2) hbk0 rfl
  have y3 := block_cell (j := 3) hbk0 rfl
  have y4 := block_cell (j := 4) hbk0 rfl
  have y5 := block_cell (j := 5) hbk0 rfl
  have y6 := block_cell (j := 6) hbk0 rfl
  have HC := Lib.hid (sameStore_any (doneR r p).store (tryL r p) _ _ _ _ _ hrd0.store Hv9.out)
  rw [show sameStore (doneR r p).store (tryL r p) = true from (sameStore_iff _ _).2 rfl] at HC
  try simp only [repV, pshV] at HC
  clear hbk0 hrd0
  go_wp2_with fail
  refine HC.out.mono ?_
  rintro e u9 ⟨rfl, hb⟩
  have HG9 := Lib.hid (HG8.out.below hb)
  have HQ9 := Lib.hid (HQ8.out.below hb)
  have HB9 := Lib.hid (below_next HB8.out hb)
  replace Hm9 := Lib.hid (Hm9.out.below hb)
  clear hb HC HG8 HQ8 HB8 y0 y1 y2 y3 y4 y5 y6 t0 t1 t2 t3 t4 t5 t6
  obtain ⟨sa0, sc0, ra0, rc0, oa0, oc0, ua0, uc0, hbk0, hrd0⟩ := HG9.out.1
  have y0 := block_cell (j := 0) hbk0 rfl
  have y1 := block_cell (j := 1) hbk0 rfl
  have y2 := block_cell (j := 2) hbk0 rfl
  have y3 := block_cell (j := 3) hbk0 rfl
  have y4 := block_cell (j := 4) hbk0 rfl
  have y5 := block_cell (j := 5) hbk0 rfl
  have y6 := block_cell (j := 6) hbk0 rfl
  have HC := Lib.hid (sameRefs_any (doneR r p).refs (tryM r p) _ _ _ _ _ hrd0.refs Hm9.out)
  rw [show sameRefs (doneR r p).refs (tryM r p) = true from (sameRefs_iff _ _).2 rfl] at HC
  try simp only [repV, pshV] at HC
  clear hbk0 hrd0
  go_wp2_with fail
  refine HC.out.mono ?_
  rintro e u10 ⟨rfl, hb⟩
  have HG10 := Lib.hid (HG9.out.below hb)
  have HQ10 := Lib.hid (HQ9.out.below hb)
  have HB10 := Lib.hid (below_next HB9.out hb)
  clear hb HC HG9 HQ9 HB9 y0 y1 y2 y3 y4 y5 y6
  have HE := HB10
  go_wp2_with fail
  go_ret
  exact ⟨rfl, HE.out⟩
end Go.Proofs.YtdhoodloklgokaaGreatDoor
