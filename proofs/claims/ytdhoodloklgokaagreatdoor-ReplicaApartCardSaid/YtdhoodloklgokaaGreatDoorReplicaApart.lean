
/- Walks: the law ReplicaApart. -/
import Derived.Test.YtdhoodloklgokaaGreatDoorStepF
namespace Go.Proofs.YtdhoodloklgokaaGreatDoor
open Go.RowKit
set_option linter.unusedVariables false
set_option linter.unusedSimpArgs false

theorem empty_not {s : ByteArray} (h : s ≠ ByteArray.empty) : (s.toList == []) = false := by
  have := isEmpty_not h
  cases hs : s.toList with
  | nil => rw [hs] at this; cases this
  | cons a l => rfl

set_option maxRecDepth 100000 in
set_option maxHeartbeats 16000000 in
theorem replicaApart_any (r : Rep) (p : Psh) (sv rv ov2 uv2 ov uv : Value) (S S1 : Nat → Prop) (w : World) (h : RepIs S w r sv rv ov2 uv2) (hp : StoreV S1 w ov p.objects ∧ MvsV S1 w uv p.updates) (ht : Tab w) :
    Calls Tryz.prog 7 #[repV r sv rv ov2 uv2, pshV p ov uv] w fun e w' => e = .returned (.bool true) ∧ Below w.heap.size w w' := by
  have H := Lib.hid h
  have G := Lib.hid hp
  have HTw := Lib.hid (fun x (hx : Below w.heap.size w x) => ht.below hx)
  clear ht
  obtain ⟨ho, hu⟩ := hp
  obtain ⟨sa, sc, rfl⟩ := h.store.vshape
  obtain ⟨⟨ra, rc⟩, rfl⟩ := h.refs.shape
  obtain ⟨oa, oc, rfl⟩ := h.objs.vshape
  obtain ⟨⟨ua, uc⟩, rfl⟩ := h.upds.shape
  obtain ⟨oap, ocp, rfl⟩ := ho.vshape
  obtain ⟨⟨uap, ucp⟩, rfl⟩ := hu.shape
  clear h ho hu
  simp only [repV, pshV]
  obtain ⟨R, hR, hR1, HB0⟩ := cls_allocs w [.cells #[.slice sa r.store.length sc, .slice ra r.refs.length rc, .int .i64 r.gen, .int .i64 r.phase, .slice oa r.pend.objects.length oc, .slice ua r.pend.updates.length uc, .bool r.pend.force] 28, .cells #[.slice oap p.objects.length ocp, .slice uap p.updates.length ucp, .bool p.force] 26]
  simp only [List.foldl] at hR1
  have hRb := hR.below
  have HB1 := Lib.hid (hRb _ hR1)
  have HG1 := Lib.hid (show Bag (fun _ => True) _ [(w.heap.size, r)] from ⟨⟨_, _, _, _, _, _, _, _, HB0 _ hR1 0 _ rfl, (H.out.below (hRb _ hR1)).weaken fun _ _ => trivial⟩, trivial⟩)
  have HQ1 := Lib.hid (show BoxQ (fun _ => True) (w.heap.size + 1) _ p from ⟨_, _, _, _, HB0 _ hR1 1 _ rfl, (G.out.1.below (hRb _ hR1)).weaken fun _ _ => trivial, (G.out.2.below (hRb _ hR1)).weaken fun _ _ => trivial⟩)
  clear HB0 hRb hR1 hR H G
  by_cases hz : prepE r p = 0
  case neg =>
    have hA : prepR r p = rep0 := by unfold prepR; rw [if_neg hz]
    have q1 : (prepE r p != 0) = true := by simpa using hz
    clear hz
    go_enter Tryz.func7, Tryz.ntmps7
    obtain ⟨sa0, sc0, ra0, rc0, oa0, oc0, ua0, uc0, hbk0, hrd0⟩ := HG1.out.1
    have y0 := block_cell (j := 0) hbk0 rfl
    have y1 := block_cell (j := 1) hbk0 rfl
    have y2 := block_cell (j := 2) hbk0 rfl
    have y3 := block_cell (j := 3) hbk0 rfl
    have y4 := block_cell (j := 4) hbk0 rfl
    have y5 := block_cell (j := 5) hbk0 rfl
    have y6 := block_cell (j := 6) hbk0 rfl
    obtain ⟨oaq, ocq, uaq, ucq, hbkq, hoq, huq⟩ := HQ1.out
    have z0 := block_cell (j := 0) hbkq rfl
    have z1 := block_cell (j := 1) hbkq rfl
    have z2 := block_cell (j := 2) hbkq rfl
    have HC := Lib.hid (prepare_any r p _ _ _ _ _ _ _ _ _ hrd0 hoq huq)
    rw [hA] at HC
    simp only [repV, pshV] at HC
    clear hbk0 hrd0 hbkq hoq huq
    go_wp2_with fail
    refine HC.out.mono ?_
    rintro e u2 ⟨sv5, rv5, ov5, uv5, rfl, hv, hb⟩
    obtain ⟨sa5, sc5, rfl⟩ := hv.store.vshape
    obtain ⟨⟨ra5, rc5⟩, rfl⟩ := hv.refs.shape
    obtain ⟨oa5, oc5, rfl⟩ := hv.objs.vshape
    obtain ⟨⟨ua5, uc5⟩, rfl⟩ := hv.upds.shape
    have hbA : Below u2.heap.size u2 (u2.alloc (.cells #[.slice sa5 rep0.store.length sc5, .slice ra5 rep0.refs.length rc5, .int .i64 rep0.gen, .int .i64 rep0.phase, .slice oa5 rep0.pend.objects.length oc5, .slice ua5 rep0.pend.updates.length uc5, .bool rep0.pend.force] 28)) := (Below.refl _ _).alloc (Nat.le_refl _) _
    have HG2 := Lib.hid (show Bag (fun _ => True) (u2.alloc (.cells #[.slice sa5 rep0.store.length sc5, .slice ra5 rep0.refs.length rc5, .int .i64 rep0.gen, .int .i64 rep0.phase, .slice oa5 rep0.pend.objects.length oc5, .slice ua5 rep0.pend.updates.length uc5, .bool rep0.pend.force] 28)) ((u2.heap.size, rep0) :: _) from ⟨⟨_, _, _, _, _, _, _, _, heap_alloc_new u2 _, (hv.below hbA).weaken fun _ _ => trivial⟩, (HG1.out.below hb).below hbA⟩)
    have HQ2 := Lib.hid ((HQ1.out.below hb).below hbA)
    have HB2 := Lib.hid (below_next (below_next HB1.out hb) hbA)
    clear hv hb hbA HC HB1 HG1 HQ1 y0 y1 y2 y3 y4 y5 y6 z0 z1 z2
    simp only [repV]
    have HC := Lib.hid (replicaBegun_any _ (HTw.out _ HB2.out))
    try simp only [repV, pshV] at HC
    go_wp2_with fail
    refine HC.out.mono ?_
    rintro e u3 ⟨rfl, hb⟩
    generalize u2.heap.size = D5 at *
    generalize u2.alloc (.cells #[.slice sa5 rep0.store.length sc5, .slice ra5 rep0.refs.length rc5, .int .i64 rep0.gen, .int .i64 rep0.phase, .slice oa5 rep0.pend.objects.length oc5, .slice ua5 rep0.pend.updates.length uc5, .bool rep0.pend.force] 28) = x3 at *
    have HG3 := Lib.hid (HG2.out.below hb)
    have HQ3 := Lib.hid (HQ2.out.below hb)
    have HB3 := Lib.hid (below_next HB2.out hb)
    clear hb HC HG2 HQ2 HB2 
    obtain ⟨sa0, sc0, ra0, rc0, oa0, oc0, ua0, uc0, hbk0, hrd0⟩ := HG3.out.1
    have y0 := block_cell (j := 0) hbk0 rfl
    have y1 := block_cell (j := 1) hbk0 rfl
    have y2 := block_cell (j := 2) hbk0 rfl
    have y3 := block_cell (j := 3) hbk0 rfl
    have y4 := block_cell (j := 4) hbk0 rfl
    have y5 := block_cell (j := 5) hbk0 rfl
    have y6 := block_cell (j := 6) hbk0 rfl
    clear hbk0 hrd0
    have q2 : ((rep0.store.length : Nat) : Int) = 0 := rfl
    have HE := HB3
    go_wp2_with fail
    go_ret
    exact ⟨rfl, HE.out⟩
  have hA := apart hz
  have HA := Lib.hid hA
  go_enter Tryz.func7, Tryz.ntmps7
  have HA1 := Lib.hid hA.a
  obtain ⟨sa0, sc0, ra0, rc0, oa0, oc0, ua0, uc0, hbk0, hrd0⟩ := HG1.out.1
  have y0 := block_cell (j := 0) hbk0 rfl
  have y1 := block_cell (j := 1) hbk0 rfl
  have y2 := block_cell (j := 2) hbk0 rfl
  have y3 := block_cell (j := 3) hbk0 rfl
  have y4 := block_cell (j := 4) hbk0 rfl
  have y5 := block_cell (j := 5) hbk0 rfl
  have y6 := block_cell (j := 6) hbk0 rfl
  obtain ⟨oaq, ocq, uaq, ucq, hbkq, hoq, huq⟩ := HQ1.out
  have z0 := block_cell (j := 0) hbkq rfl
  have z1 := block_cell (j := 1) hbkq rfl
  have z2 := block_cell (j := 2) hbkq rfl
  have HC := Lib.hid (prepare_any r p _ _ _ _ _ _ _ _ _ hrd0 hoq huq)
  rw [hz, HA1.out] at HC
  simp only [repV, pshV] at HC
  clear hbk0 hrd0 hbkq hoq huq
  go_wp2_with fail
  refine HC.out.mono ?_
  rintro e u2 ⟨sv5, rv5, ov5, uv5, rfl, hv, hb⟩
  obtain ⟨sa5, sc5, rfl⟩ := hv.store.vshape
  obtain ⟨⟨ra5, rc5⟩, rfl⟩ := hv.refs.shape
  obtain ⟨oa5, oc5, rfl⟩ := hv.objs.vshape
  obtain ⟨⟨ua5, uc5⟩, rfl⟩ := hv.upds.shape
  have hbA : Below u2.heap.size u2 (u2.alloc (.cells #[.slice sa5 (heldR r p).store.length sc5, .slice ra5 (heldR r p).refs.length rc5, .int .i64 (heldR r p).gen, .int .i64 (heldR r p).phase, .slice oa5 (heldR r p).pend.objects.length oc5, .slice ua5 (heldR r p).pend.updates.length uc5, .bool (heldR r p).pend.force] 28)) := (Below.refl _ _).alloc (Nat.le_refl _) _
  have HG2 := Lib.hid (show Bag (fun _ => True) (u2.alloc (.cells #[.slice sa5 (heldR r p).store.length sc5, .slice ra5 (heldR r p).refs.length rc5, .int .i64 (heldR r p).gen, .int .i64 (heldR r p).phase, .slice oa5 (heldR r p).pend.objects.length oc5, .slice ua5 (heldR r p).pend.updates.length uc5, .bool (heldR r p).pend.force] 28)) ((u2.heap.size, (heldR r p)) :: _) from ⟨⟨_, _, _, _, _, _, _, _, heap_alloc_new u2 _, (hv.below hbA).weaken fun _ _ => trivial⟩, (HG1.out.below hb).below hbA⟩)
  have HQ2 := Lib.hid ((HQ1.out.below hb).below hbA)
  have HB2 := Lib.hid (below_next (below_next HB1.out hb) hbA)
  clear hv hb hbA HC HB1 HG1 HQ1 y0 y1 y2 y3 y4 y5 y6 z0 z1 z2
  simp only [repV]
  have HC := Lib.hid (replicaBegun_any _ (HTw.out _ HB2.out))
  try simp only [repV, pshV] at HC
  go_wp2_with fail
  refine HC.out.mono ?_
  rintro e u3 ⟨rfl, hb⟩
  generalize u2.heap.size = D5 at *
  generalize u2.alloc (.cells #[.slice sa5 (heldR r p).store.length sc5, .slice ra5 (heldR r p).refs.length rc5, .int .i64 (heldR r p).gen, .int .i64 (heldR r p).phase, .slice oa5 (heldR r p).pend.objects.length oc5, .slice ua5 (heldR r p).pend.updates.length uc5, .bool (heldR r p).pend.force] 28) = x3 at *
  have HG3 := Lib.hid (HG2.out.below hb)
  have HQ3 := Lib.hid (HQ2.out.below hb)
  have HB3 := Lib.hid (below_next HB2.out hb)
  clear hb HC HG2 HQ2 HB2 
  clear hz hA
  obtain ⟨sa0, sc0, ra0, rc0, oa0, oc0, ua0, uc0, hbk0, hrd0⟩ := HG3.out.1
  have y0 := block_cell (j := 0) hbk0 rfl
  have y1 := block_cell (j := 1) hbk0 rfl
  have y2 := block_cell (j := 2) hbk0 rfl
  have y3 := block_cell (j := 3) hbk0 rfl
  have y4 := block_cell (j := 4) hbk0 rfl
  have y5 := block_cell (j := 5) hbk0 rfl
  have y6 := block_cell (j := 6) hbk0 rfl
  have HC := Lib.hid (vote_any (heldR r p) _ _ _ _ _ _ hrd0 (HTw.out _ HB3.out))
  rw [HA.out.vot.1, HA.out.vot.2.1, HA.out.vot.2.2] at HC
  simp only [repV] at HC
  clear hbk0 hrd0
  go_wp2_with fail
  refine HC.out.mono ?_
  rintro e u4 ⟨sv5, rv5, ov5, uv5, rfl, hv, hb⟩
  obtain ⟨sa5, sc5, rfl⟩ := hv.store.vshape
  obtain ⟨⟨ra5, rc5⟩, rfl⟩ := hv.refs.shape
  obtain ⟨oa5, oc5, rfl⟩ := hv.objs.vshape
  obtain ⟨⟨ua5, uc5⟩, rfl⟩ := hv.upds.shape
  have hbA : Below u4.heap.size u4 (u4.alloc (.cells #[.slice sa5 (votedR (heldR r p)).store.length sc5, .slice ra5 (votedR (heldR r p)).refs.length rc5, .int .i64 (votedR (heldR r p)).gen, .int .i64 (votedR (heldR r p)).phase, .slice oa5 (votedR (heldR r p)).pend.objects.length oc5, .slice ua5 (votedR (heldR r p)).pend.updates.length uc5, .bool (votedR (heldR r p)).pend.force] 28)) := (Below.refl _ _).alloc (Nat.le_refl _) _
  have HG4 := Lib.hid (show Bag (fun _ => True) (u4.alloc (.cells #[.slice sa5 (votedR (heldR r p)).store.length sc5, .slice ra5 (votedR (heldR r p)).refs.length rc5, .int .i64 (votedR (heldR r p)).gen, .int .i64 (votedR (heldR r p)).phase, .slice oa5 (votedR (heldR r p)).pend.objects.length oc5, .slice ua5 (votedR (heldR r p)).pend.updates.length uc5, .bool (votedR (heldR r p)).pend.force] 28)) ((u4.heap.size, (votedR (heldR r p))) :: _) from ⟨⟨_, _, _, _, _, _, _, _, heap_alloc_new u4 _, (hv.below hbA).weaken fun _ _ => trivial⟩, (HG3.out.below hb).below hbA⟩)
  have HQ4 := Lib.hid ((HQ3.out.below hb).below hbA)
  have HB4 := Lib.hid (below_next (below_next HB3.out hb) hbA)
  clear hv hb hbA HC HB3 HG3 HQ3 y0 y1 y2 y3 y4 y5 y6
  simp only [repV]
  obtain ⟨sa0, sc0, ra0, rc0, oa0, oc0, ua0, uc0, hbk0, hrd0⟩ := HG4.out.2.1
  have y0 := block_cell (j := 0) hbk0 rfl
  have y1 := block_cell (j := 1) hbk0 rfl
  have y2 := block_cell (j := 2) hbk0 rfl
  have y3 := block_cell (j := 3) hbk0 rfl
  have y4 := block_cell (j := 4) hbk0 rfl
  have y5 := block_cell (j := 5) hbk0 rfl
  have y6 := block_cell (j := 6) hbk0 rfl
  have HC := Lib.hid (crash_any (heldR r p) _ _ _ _ _ _ hrd0)
  rw [HA.out.ca.1, HA.out.ca.2] at HC
  simp only [repV] at HC
  clear hbk0 hrd0
  go_wp2_with fail
  refine HC.out.mono ?_
  rintro e u5 ⟨sv5, rv5, ov5, uv5, rfl, hv, hb⟩
  generalize u4.heap.size = D7 at *
  generalize u4.alloc (.cells #[.slice sa5 (votedR (heldR r p)).store.length sc5, .slice ra5 (votedR (heldR r p)).refs.length rc5, .int .i64 (votedR (heldR r p)).gen, .int .i64 (votedR (heldR r p)).phase, .slice oa5 (votedR (heldR r p)).pend.objects.length oc5, .slice ua5 (votedR (heldR r p)).pend.updates.length uc5, .bool (votedR (heldR r p)).pend.force] 28) = x5 at *
  obtain ⟨sa5, sc5, rfl⟩ := hv.store.vshape
  obtain ⟨⟨ra5, rc5⟩, rfl⟩ := hv.refs.shape
  obtain ⟨oa5, oc5, rfl⟩ := hv.objs.vshape
  obtain ⟨⟨ua5, uc5⟩, rfl⟩ := hv.upds.shape
  have hbA : Below u5.heap.size u5 (u5.alloc (.cells #[.slice sa5 r.store.length sc5, .slice ra5 r.refs.length rc5, .int .i64 r.gen, .int .i64 r.phase, .slice oa5 r.pend.objects.length oc5, .slice ua5 r.pend.updates.length uc5, .bool r.pend.force] 28)) := (Below.refl _ _).alloc (Nat.le_refl _) _
  have HG5 := Lib.hid (show Bag (fun _ => True) (u5.alloc (.cells #[.slice sa5 r.store.length sc5, .slice ra5 r.refs.length rc5, .int .i64 r.gen, .int .i64 r.phase, .slice oa5 r.pend.objects.length oc5, .slice ua5 r.pend.updates.length uc5, .bool r.pend.force] 28)) ((u5.heap.size, r) :: _) from ⟨⟨_, _, _, _, _, _, _, _, heap_alloc_new u5 _, (hv.below hbA).weaken fun _ _ => trivial⟩, (HG4.out.below hb).below hbA⟩)
  have HQ5 := Lib.hid ((HQ4.out.below hb).below hbA)
  have HB5 := Lib.hid (below_next (below_next HB4.out hb) hbA)
  clear hv hb hbA HC HB4 HG4 HQ4 y0 y1 y2 y3 y4 y5 y6
  simp only [repV]
  obtain ⟨sa0, sc0, ra0, rc0, oa0, oc0, ua0, uc0, hbk0, hrd0⟩ := HG5.out.2.1
  have y0 := block_cell (j := 0) hbk0 rfl
  have y1 := block_cell (j := 1) hbk0 rfl
  have y2 := block_cell (j := 2) hbk0 rfl
  have y3 := block_cell (j := 3) hbk0 rfl
  have y4 := block_cell (j := 4) hbk0 rfl
  have y5 := block_cell (j := 5) hbk0 rfl
  have y6 := block_cell (j := 6) hbk0 rfl
  have HC := Lib.hid (crash_any (votedR (heldR r p)) _ _ _ _ _ _ hrd0)
  rw [HA.out.cb.1, HA.out.cb.2] at HC
  simp only [repV] at HC
  clear hbk0 hrd0
  go_wp2_with fail
  refine HC.out.mono ?_
  rintro e u6 ⟨sv5, rv5, ov5, uv5, rfl, hv, hb⟩
  generalize u5.heap.size = D10 at *
  generalize u5.alloc (.cells #[.slice sa5 r.store.length sc5, .slice ra5 r.refs.length rc5, .int .i64 r.gen, .int .i64 r.phase, .slice oa5 r.pend.objects.length oc5, .slice ua5 r.pend.updates.length uc5, .bool r.pend.force] 28) = x6 at *
  obtain ⟨sa5, sc5, rfl⟩ := hv.store.vshape
  obtain ⟨⟨ra5, rc5⟩, rfl⟩ := hv.refs.shape
  obtain ⟨oa5, oc5, rfl⟩ := hv.objs.vshape
  obtain ⟨⟨ua5, uc5⟩, rfl⟩ := hv.upds.shape
  have hbA : Below u6.heap.size u6 (u6.alloc (.cells #[.slice sa5 r.store.length sc5, .slice ra5 r.refs.length rc5, .int .i64 r.gen, .int .i64 r.phase, .slice oa5 r.pend.objects.length oc5, .slice ua5 r.pend.updates.length uc5, .bool r.pend.force] 28)) := (Below.refl _ _).alloc (Nat.le_refl _) _
  have HG6 := Lib.hid (show Bag (fun _ => True) (u6.alloc (.cells #[.slice sa5 r.store.length sc5, .slice ra5 r.refs.length rc5, .int .i64 r.gen, .int .i64 r.phase, .slice oa5 r.pend.objects.length oc5, .slice ua5 r.pend.updates.length uc5, .bool r.pend.force] 28)) ((u6.heap.size, r) :: _) from ⟨⟨_, _, _, _, _, _, _, _, heap_alloc_new u6 _, (hv.below hbA).weaken fun _ _ => trivial⟩, (HG5.out.below hb).below hbA⟩)
  have HQ6 := Lib.hid ((HQ5.out.below hb).below hbA)
  have HB6 := Lib.hid (below_next (below_next HB5.out hb) hbA)
  clear hv hb hbA HC HB5 HG5 HQ5 y0 y1 y2 y3 y4 y5 y6
  simp only [repV]
  obtain ⟨sa0, sc0, ra0, rc0, oa0, oc0, ua0, uc0, hbk0, hrd0⟩ := HG6.out.2.2.1
  have y0 := block_cell (j := 0) hbk0 rfl
  have y1 := block_cell (j := 1) hbk0 rfl
  have y2 := block_cell (j := 2) hbk0 rfl
  have y3 := block_cell (j := 3) hbk0 rfl
  have y4 := block_cell (j := 4) hbk0 rfl
  have y5 := block_cell (j := 5) hbk0 rfl
  have y6 := block_cell (j := 6) hbk0 rfl
  have HC := Lib.hid (finish_any (votedR (heldR r p)) false _ _ _ _ _ _ hrd0)
  rw [HA.out.fin.1, HA.out.fin.2] at HC
  simp only [repV] at HC
  clear hbk0 hrd0
  go_wp2_with fail
  refine HC.out.mono ?_
  rintro e u7 ⟨sv5, rv5, ov5, uv5, rfl, hv, hb⟩
  generalize u6.heap.size = D12 at *
  generalize u6.alloc (.cells #[.slice sa5 r.store.length sc5, .slice ra5 r.refs.length rc5, .int .i64 r.gen, .int .i64 r.phase, .slice oa5 r.pend.objects.length oc5, .slice ua5 r.pend.updates.length uc5, .bool r.pend.force] 28) = x7 at *
  obtain ⟨sa5, sc5, rfl⟩ := hv.store.vshape
  obtain ⟨⟨ra5, rc5⟩, rfl⟩ := hv.refs.shape
  obtain ⟨oa5, oc5, rfl⟩ := hv.objs.vshape
  obtain ⟨⟨ua5, uc5⟩, rfl⟩ := hv.upds.shape
  have hbA : Below u7.heap.size u7 (u7.alloc (.cells #[.slice sa5 r.store.length sc5, .slice ra5 r.refs.length rc5, .int .i64 r.gen, .int .i64 r.phase, .slice oa5 r.pend.objects.length oc5, .slice ua5 r.pend.updates.length uc5, .bool r.pend.force] 28)) := (Below.refl _ _).alloc (Nat.le_refl _) _
  have HG7 := Lib.hid (show Bag (fun _ => True) (u7.alloc (.cells #[.slice sa5 r.store.length sc5, .slice ra5 r.refs.length rc5, .int .i64 r.gen, .int .i64 r.phase, .slice oa5 r.pend.objects.length oc5, .slice ua5 r.pend.updates.length uc5, .bool r.pend.force] 28)) ((u7.heap.size, r) :: _) from ⟨⟨_, _, _, _, _, _, _, _, heap_alloc_new u7 _, (hv.below hbA).weaken fun _ _ => trivial⟩, (HG6.out.below hb).below hbA⟩)
  have HQ7 := Lib.hid ((HQ6.out.below hb).below hbA)
  have HB7 := Lib.hid (below_next (below_next HB6.out hb) hbA)
  clear hv hb hbA HC HB6 HG6 HQ6 y0 y1 y2 y3 y4 y5 y6
  simp only [repV]
  have q5 := empty_not HA.out.same
  have q6 := isEmpty_not HA.out.same
  generalize voteR r p = VS at *
  obtain ⟨sa0, sc0, ra0, rc0, oa0, oc0, ua0, uc0, hbk0, hrd0⟩ := HG7.out.2.2.1
  have y0 := block_cell (j := 0) hbk0 rfl
  have y1 := block_cell (j := 1) hbk0 rfl
  have y2 := block_cell (j := 2) hbk0 rfl
  have y3 := block_cell (j := 3) hbk0 rfl
  have y4 := block_cell (j := 4) hbk0 rfl
  have y5 := block_cell (j := 5) hbk0 rfl
  have y6 := block_cell (j := 6) hbk0 rfl
  obtain ⟨sa1, sc1, ra1, rc1, oa1, oc1, ua1, uc1, hbk1, hrd1⟩ := HG7.out.2.2.2.2.2.1
  have z0 := block_cell (j := 0) hbk1 rfl
  have z1 := block_cell (j := 1) hbk1 rfl
  have z2 := block_cell (j := 2) hbk1 rfl
  have z3 := block_cell (j := 3) hbk1 rfl
  have z4 := block_cell (j := 4) hbk1 rfl
  have z5 := block_cell (j := 5) hbk1 rfl
  have z6 := block_cell (j := 6) hbk1 rfl
  have HC := Lib.hid (sameReplica_any r r _ _ _ _ _ _ _ _ _ _ _ hrd0 hrd1)
  rw [(sameRep_iff r r).2 rfl] at HC
  try simp only [repV, pshV] at HC
  clear hbk0 hrd0
  clear hbk1 hrd1
  go_wp2_with fail
  refine HC.out.mono ?_
  rintro e u8 ⟨rfl, hb⟩
  generalize u7.heap.size = D14 at *
  generalize u7.alloc (.cells #[.slice sa5 r.store.length sc5, .slice ra5 r.refs.length rc5, .int .i64 r.gen, .int .i64 r.phase, .slice oa5 r.pend.objects.length oc5, .slice ua5 r.pend.updates.length uc5, .bool r.pend.force] 28) = x8 at *
  have HG8 := Lib.hid (HG7.out.below hb)
  have HQ8 := Lib.hid (HQ7.out.below hb)
  have HB8 := Lib.hid (below_next HB7.out hb)
  clear hb HC HG7 HQ7 HB7 y0 y1 y2 y3 y4 y5 y6 z0 z1 z2 z3 z4 z5 z6
  obtain ⟨sa0, sc0, ra0, rc0, oa0, oc0, ua0, uc0, hbk0, hrd0⟩ := HG8.out.2.1
  have y0 := block_cell (j := 0) hbk0 rfl
  have y1 := block_cell (j := 1) hbk0 rfl
  have y2 := block_cell (j := 2) hbk0 rfl
  have y3 := block_cell (j := 3) hbk0 rfl
  have y4 := block_cell (j := 4) hbk0 rfl
  have y5 := block_cell (j := 5) hbk0 rfl
  have y6 := block_cell (j := 6) hbk0 rfl
  obtain ⟨sa1, sc1, ra1, rc1, oa1, oc1, ua1, uc1, hbk1, hrd1⟩ := HG8.out.2.2.2.2.2.1
  have z0 := block_cell (j := 0) hbk1 rfl
  have z1 := block_cell (j := 1) hbk1 rfl
  have z2 := block_cell (j := 2) hbk1 rfl
  have z3 := block_cell (j := 3) hbk1 rfl
  have z4 := block_cell (j := 4) hbk1 rfl
  have z5 := block_cell (j := 5) hbk1 rfl
  have z6 := block_cell (j := 6) hbk1 rfl
  have HC := Lib.hid (sameReplica_any r r _ _ _ _ _ _ _ _ _ _ _ hrd0 hrd1)
  rw [(sameRep_iff r r).2 rfl] at HC
  try simp only [repV, pshV] at HC
  clear hbk0 hrd0
  clear hbk1 hrd1
  go_wp2_with fail
  refine HC.out.mono ?_
  rintro e u9 ⟨rfl, hb⟩
  have HG9 := Lib.hid (HG8.out.below hb)
  have HQ9 := Lib.hid (HQ8.out.below hb)
  have HB9 := Lib.hid (below_next HB8.out hb)
  clear hb HC HG8 HQ8 HB8 y0 y1 y2 y3 y4 y5 y6 z0 z1 z2 z3 z4 z5 z6
  obtain ⟨sa0, sc0, ra0, rc0, oa0, oc0, ua0, uc0, hbk0, hrd0⟩ := HG9.out.1
  have y0 := block_cell (j := 0) hbk0 rfl
  have y1 := block_cell (j := 1) hbk0 rfl
  have y2 := block_cell (j := 2) hbk0 rfl
  have y3 := block_cell (j := 3) hbk0 rfl
  have y4 := block_cell (j := 4) hbk0 rfl
  have y5 := block_cell (j := 5) hbk0 rfl
  have y6 := block_cell (j := 6) hbk0 rfl
  obtain ⟨sa1, sc1, ra1, rc1, oa1, oc1, ua1, uc1, hbk1, hrd1⟩ := HG9.out.2.2.2.2.2.1
  have z0 := block_cell (j := 0) hbk1 rfl
  have z1 := block_cell (j := 1) hbk1 rfl
  have z2 := block_cell (j := 2) hbk1 rfl
  have z3 := block_cell (j := 3) hbk1 rfl
  have z4 := block_cell (j := 4) hbk1 rfl
  have z5 := block_cell (j := 5) hbk1 rfl
  have z6 := block_cell (j := 6) hbk1 rfl
  have HC := Lib.hid (sameReplica_any r r _ _ _ _ _ _ _ _ _ _ _ hrd0 hrd1)
  rw [(sameRep_iff r r).2 rfl] at HC
  try simp only [repV, pshV] at HC
  clear hbk0 hrd0
  clear hbk1 hrd1
  go_wp2_with fail
  refine HC.out.mono ?_
  rintro e u10 ⟨rfl, hb⟩
  have HG10 := Lib.hid (HG9.out.below hb)
  have HQ10 := Lib.hid (HQ9.out.below hb)
  have HB10 := Lib.hid (below_next HB9.out hb)
  clear hb HC HG9 HQ9 HB9 y0 y1 y2 y3 y4 y5 y6 z0 z1 z2 z3 z4 z5 z6
  obtain ⟨sa0, sc0, ra0, rc0, oa0, oc0, ua0, uc0, hbk0, hrd0⟩ := HG10.out.2.2.2.2.1
  have y0 := block_cell (j := 0) hbk0 rfl
  have y1 := block_cell (j := 1) hbk0 rfl
  have y2 := block_cell (j := 2) hbk0 rfl
  have y3 := block_cell (j := 3) hbk0 rfl
  have y4 := block_cell (j := 4) hbk0 rfl
  have y5 := block_cell (j := 5) hbk0 rfl
  have y6 := block_cell (j := 6) hbk0 rfl
  have HC := Lib.hid (repCheck_any (heldR r p) _ _ _ _ _ _ hrd0)
  rw [HA.out.ca.1] at HC
  try simp only [repV, pshV] at HC
  clear hbk0 hrd0
  go_wp2_with fail
  refine HC.out.mono ?_
  rintro e u11 ⟨rfl, hb⟩
  have HG11 := Lib.hid (HG10.out.below hb)
  have HQ11 := Lib.hid (HQ10.out.below hb)
  have HB11 := Lib.hid (below_next HB10.out hb)
  clear hb HC HG10 HQ10 HB10 y0 y1 y2 y3 y4 y5 y6
  obtain ⟨sa0, sc0, ra0, rc0, oa0, oc0, ua0, uc0, hbk0, hrd0⟩ := HG11.out.2.2.2.1
  have y0 := block_cell (j := 0) hbk0 rfl
  have y1 := block_cell (j := 1) hbk0 rfl
  have y2 := block_cell (j := 2) hbk0 rfl
  have y3 := block_cell (j := 3) hbk0 rfl
  have y4 := block_cell (j := 4) hbk0 rfl
  have y5 := block_cell (j := 5) hbk0 rfl
  have y6 := block_cell (j := 6) hbk0 rfl
  have HC := Lib.hid (repCheck_any (votedR (heldR r p)) _ _ _ _ _ _ hrd0)
  rw [HA.out.cb.1] at HC
  try simp only [repV, pshV] at HC
  clear hbk0 hrd0
  go_wp2_with fail
  refine HC.out.mono ?_
  rintro e u12 ⟨rfl, hb⟩
  have HG12 := Lib.hid (HG11.out.below hb)
  have HQ12 := Lib.hid (HQ11.out.below hb)
  have HB12 := Lib.hid (below_next HB11.out hb)
  clear hb HC HG11 HQ11 HB11 y0 y1 y2 y3 y4 y5 y6
  obtain ⟨sa0, sc0, ra0, rc0, oa0, oc0, ua0, uc0, hbk0, hrd0⟩ := HG12.out.2.2.2.2.1
  have y0 := block_cell (j := 0) hbk0 rfl
  have y1 := block_cell (j := 1) hbk0 rfl
  have y2 := block_cell (j := 2) hbk0 rfl
  have y3 := block_cell (j := 3) hbk0 rfl
  have y4 := block_cell (j := 4) hbk0 rfl
  have y5 := block_cell (j := 5) hbk0 rfl
  have y6 := block_cell (j := 6) hbk0 rfl
  obtain ⟨sa1, sc1, ra1, rc1, oa1, oc1, ua1, uc1, hbk1, hrd1⟩ := HG12.out.2.2.2.2.2.1
  have z0 := block_cell (j := 0) hbk1 rfl
  have z1 := block_cell (j := 1) hbk1 rfl
  have z2 := block_cell (j := 2) hbk1 rfl
  have z3 := block_cell (j := 3) hbk1 rfl
  have z4 := block_cell (j := 4) hbk1 rfl
  have z5 := block_cell (j := 5) hbk1 rfl
  have z6 := block_cell (j := 6) hbk1 rfl
  have HC := Lib.hid (sameStore_any r.store r.store _ _ _ _ _ hrd0.store hrd1.store)
  rw [(sameStore_iff r.store r.store).2 rfl] at HC
  try simp only [repV, pshV] at HC
  clear hbk0 hrd0
  clear hbk1 hrd1
  go_wp2_with fail
  refine HC.out.mono ?_
  rintro e u13 ⟨rfl, hb⟩
  have HG13 := Lib.hid (HG12.out.below hb)
  have HQ13 := Lib.hid (HQ12.out.below hb)
  have HB13 := Lib.hid (below_next HB12.out hb)
  clear hb HC HG12 HQ12 HB12 y0 y1 y2 y3 y4 y5 y6 z0 z1 z2 z3 z4 z5 z6
  obtain ⟨sa0, sc0, ra0, rc0, oa0, oc0, ua0, uc0, hbk0, hrd0⟩ := HG13.out.2.2.2.2.1
  have y0 := block_cell (j := 0) hbk0 rfl
  have y1 := block_cell (j := 1) hbk0 rfl
  have y2 := block_cell (j := 2) hbk0 rfl
  have y3 := block_cell (j := 3) hbk0 rfl
  have y4 := block_cell (j := 4) hbk0 rfl
  have y5 := block_cell (j := 5) hbk0 rfl
  have y6 := block_cell (j := 6) hbk0 rfl
  obtain ⟨sa1, sc1, ra1, rc1, oa1, oc1, ua1, uc1, hbk1, hrd1⟩ := HG13.out.2.2.2.2.2.1
  have z0 := block_cell (j := 0) hbk1 rfl
  have z1 := block_cell (j := 1) hbk1 rfl
  have z2 := block_cell (j := 2) hbk1 rfl
  have z3 := block_cell (j := 3) hbk1 rfl
  have z4 := block_cell (j := 4) hbk1 rfl
  have z5 := block_cell (j := 5) hbk1 rfl
  have z6 := block_cell (j := 6) hbk1 rfl
  have HC := Lib.hid (sameRefs_any r.refs r.refs _ _ _ _ _ hrd0.refs hrd1.refs)
  rw [(sameRefs_iff r.refs r.refs).2 rfl] at HC
  try simp only [repV, pshV] at HC
  clear hbk0 hrd0
  clear hbk1 hrd1
  go_wp2_with fail
  refine HC.out.mono ?_
  rintro e u14 ⟨rfl, hb⟩
  have HG14 := Lib.hid (HG13.out.below hb)
  have HQ14 := Lib.hid (HQ13.out.below hb)
  have HB14 := Lib.hid (below_next HB13.out hb)
  clear hb HC HG13 HQ13 HB13 y0 y1 y2 y3 y4 y5 y6 z0 z1 z2 z3 z4 z5 z6
  obtain ⟨sa0, sc0, ra0, rc0, oa0, oc0, ua0, uc0, hbk0, hrd0⟩ := HG14.out.2.2.2.1
  have y0 := block_cell (j := 0) hbk0 rfl
  have y1 := block_cell (j := 1) hbk0 rfl
  have y2 := block_cell (j := 2) hbk0 rfl
  have y3 := block_cell (j := 3) hbk0 rfl
  have y4 := block_cell (j := 4) hbk0 rfl
  have y5 := block_cell (j := 5) hbk0 rfl
  have y6 := block_cell (j := 6) hbk0 rfl
  obtain ⟨sa1, sc1, ra1, rc1, oa1, oc1, ua1, uc1, hbk1, hrd1⟩ := HG14.out.2.2.2.2.2.1
  have z0 := block_cell (j := 0) hbk1 rfl
  have z1 := block_cell (j := 1) hbk1 rfl
  have z2 := block_cell (j := 2) hbk1 rfl
  have z3 := block_cell (j := 3) hbk1 rfl
  have z4 := block_cell (j := 4) hbk1 rfl
  have z5 := block_cell (j := 5) hbk1 rfl
  have z6 := block_cell (j := 6) hbk1 rfl
  have HC := Lib.hid (sameStore_any r.store r.store _ _ _ _ _ hrd0.store hrd1.store)
  rw [(sameStore_iff r.store r.store).2 rfl] at HC
  try simp only [repV, pshV] at HC
  clear hbk0 hrd0
  clear hbk1 hrd1
  go_wp2_with fail
  refine HC.out.mono ?_
  rintro e u15 ⟨rfl, hb⟩
  have HG15 := Lib.hid (HG14.out.below hb)
  have HQ15 := Lib.hid (HQ14.out.below hb)
  have HB15 := Lib.hid (below_next HB14.out hb)
  clear hb HC HG14 HQ14 HB14 y0 y1 y2 y3 y4 y5 y6 z0 z1 z2 z3 z4 z5 z6
  obtain ⟨sa0, sc0, ra0, rc0, oa0, oc0, ua0, uc0, hbk0, hrd0⟩ := HG15.out.2.2.2.1
  have y0 := block_cell (j := 0) hbk0 rfl
  have y1 := block_cell (j := 1) hbk0 rfl
  have y2 := block_cell (j := 2) hbk0 rfl
  have y3 := block_cell (j := 3) hbk0 rfl
  have y4 := block_cell (j := 4) hbk0 rfl
  have y5 := block_cell (j := 5) hbk0 rfl
  have y6 := block_cell (j := 6) hbk0 rfl
  obtain ⟨sa1, sc1, ra1, rc1, oa1, oc1, ua1, uc1, hbk1, hrd1⟩ := HG15.out.2.2.2.2.2.1
  have z0 := block_cell (j := 0) hbk1 rfl
  have z1 := block_cell (j := 1) hbk1 rfl
  have z2 := block_cell (j := 2) hbk1 rfl
  have z3 := block_cell (j := 3) hbk1 rfl
  have z4 := block_cell (j := 4) hbk1 rfl
  have z5 := block_cell (j := 5) hbk1 rfl
  have z6 := block_cell (j := 6) hbk1 rfl
  have HC := Lib.hid (sameRefs_any r.refs r.refs _ _ _ _ _ hrd0.refs hrd1.refs)
  rw [(sameRefs_iff r.refs r.refs).2 rfl] at HC
  try simp only [repV, pshV] at HC
  clear hbk0 hrd0
  clear hbk1 hrd1
  go_wp2_with fail
  refine HC.out.mono ?_
  rintro e u16 ⟨rfl, hb⟩
  have HG16 := Lib.hid (HG15.out.below hb)
  have HQ16 := Lib.hid (HQ15.out.below hb)
  have HB16 := Lib.hid (below_next HB15.out hb)
  clear hb HC HG15 HQ15 HB15 y0 y1 y2 y3 y4 y5 y6 z0 z1 z2 z3 z4 z5 z6
  have HE := HB16
  go_wp2_with fail
  go_ret
  exact ⟨rfl, HE.out⟩
end Go.Proofs.YtdhoodloklgokaaGreatDoor
