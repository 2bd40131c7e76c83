
/- Walks: the law ReplicaTells. -/
import Derived.Test.YtdhoodloklgokaaGreatDoorCluA
import Derived.Test.YtdhoodloklgokaaGreatDoorStepA
import Derived.Test.YtdhoodloklgokaaGreatDoorStepD
import Derived.Test.YtdhoodloklgokaaGreatDoorStepF
namespace Go.Proofs.YtdhoodloklgokaaGreatDoor
open Go.RowKit
set_option linter.unusedVariables false
set_option linter.unusedSimpArgs false

theorem prepR_not {r : Rep} {p : Psh} (h : prepE r p ≠ 0) : prepR r p = rep0 := by unfold prepR; rw [if_neg h]
theorem finR_not {r : Rep} {c : Bool} (h : finE r c ≠ 0) : finR r c = rep0 := by unfold finR; rw [if_neg h]
theorem craR_not {r : Rep} (h : repCheck r ≠ 0) : craR r = rep0 := by unfold craR; rw [if_neg h]
theorem votR_not {r : Rep} (h : inE r 1 ≠ 0) : votR r = rep0 := by unfold votR; rw [if_neg h]
theorem repIsB_bad (r x : Rep) (c : Int) (hc : c ≠ 0) (h : r = rep0) : repIsB r c c x = true := by
  unfold repIsB
  rw [if_neg hc, h, (sameRep_iff _ _).2 rfl]; simp
/-- a replica that is wrong -/
theorem wrong_all {r : Rep} (h : repCheck r ≠ 0) (p : Psh) (c : Bool) : (prepE r p = repCheck r ∧ prepR r p = rep0) ∧ (inE r 1 = repCheck r ∧ votR r = rep0 ∧ votS r = ByteArray.empty) ∧ (finE r c = repCheck r ∧ finR r c = rep0) ∧ craR r = rep0 := by
  have h1 : ∀ ph, inE r ph = repCheck r := fun ph => inE_wrong h
  have e1 : prepE r p = repCheck r := by unfold prepE; rw [h1, if_pos h]
  have e2 : finE r c = repCheck r := by unfold finE; rw [h1, if_pos h]
  exact ⟨⟨e1, prepR_not (by rw [e1]; exact h)⟩, ⟨h1 1, votR_not (by rw [h1]; exact h), by unfold votS; rw [h1, if_neg h]⟩, ⟨e2, finR_not (by rw [e2]; exact h)⟩, craR_not h⟩

set_option maxRecDepth 100000 in
set_option maxHeartbeats 16000000 in
theorem replicaTells_any (r : Rep) (p : Psh) (cm : Bool) (sv rv ov2 uv2 ov uv : Value) (S S1 : Nat → Prop) (w : World) (h : RepIs S w r sv rv ov2 uv2) (hp : StoreV S1 w ov p.objects ∧ MvsV S1 w uv p.updates) (ht : Tab w) :
    Calls Tryz.prog 6 #[repV r sv rv ov2 uv2, pshV p ov uv, .bool cm] w fun e w' => e = .returned (.bool true) ∧ Below w.heap.size w w' := by
  have H := Lib.hid h
  have G := Lib.hid hp
  have HTb := Lib.hid (fun x (hx : Below w.heap.size w x) => ht.below hx)
  obtain ⟨ho, hu⟩ := hp
  obtain ⟨sa, sc, rfl⟩ := h.store.vshape
  obtain ⟨⟨ra, rc⟩, rfl⟩ := h.refs.shape
  obtain ⟨oa, oc, rfl⟩ := h.objs.vshape
  obtain ⟨⟨ua, uc⟩, rfl⟩ := h.upds.shape
  obtain ⟨oap, ocp, rfl⟩ := ho.vshape
  obtain ⟨⟨uap, ucp⟩, rfl⟩ := hu.shape
  clear h ho hu ht
  simp only [repV, pshV]
  obtain ⟨R, hR, hR1, HB0⟩ := cls_allocs w [.cells #[.slice sa r.store.length sc, .slice ra r.refs.length rc, .int .i64 r.gen, .int .i64 r.phase, .slice oa r.pend.objects.length oc, .slice ua r.pend.updates.length uc, .bool r.pend.force] 28, .cells #[.slice oap p.objects.length ocp, .slice uap p.updates.length ucp, .bool p.force] 26]
  simp only [List.foldl] at hR1
  have hRb := hR.below
  have HB1 := Lib.hid (hRb _ hR1)
  have HG1 := Lib.hid (show Bag (fun _ => True) _ [(w.heap.size, r)] from ⟨⟨_, _, _, _, _, _, _, _, HB0 _ hR1 0 _ rfl, (H.out.below (hRb _ hR1)).weaken fun _ _ => trivial⟩, trivial⟩)
  have HQ1 := Lib.hid (show BoxQ (fun _ => True) (w.heap.size + 1) _ p from ⟨_, _, _, _, HB0 _ hR1 1 _ rfl, (G.out.1.below (hRb _ hR1)).weaken fun _ _ => trivial, (G.out.2.below (hRb _ hR1)).weaken fun _ _ => trivial⟩)
  have HT1 := Lib.hid (HTb.out _ (hRb _ hR1))
  clear HB0 hRb hR1 hR H G
  obtain ⟨x1, hx1⟩ : ∃ x1, x1 = ((w.alloc (.cells #[.slice sa r.store.length sc, .slice ra r.refs.length rc, .int .i64 r.gen, .int .i64 r.phase, .slice oa r.pend.objects.length oc, .slice ua r.pend.updates.length uc, .bool r.pend.force] 28)).alloc (.cells #[.slice oap p.objects.length ocp, .slice uap p.updates.length ucp, .bool p.force] 26)) := ⟨_, rfl⟩
  have Hx1 := Lib.hid hx1
  rw [← hx1] at HB1 HG1 HQ1 HT1
  clear hx1
  go_enter Tryz.func6, Tryz.ntmps6
  obtain ⟨sa0, sc0, ra0, rc0, oa0, oc0, ua0, uc0, hbk0, hrd0⟩ := HG1.out.1
  have y0 := block_cell (j := 0) hbk0 rfl
  have y1 := block_cell (j := 1) hbk0 rfl
  have y2 := block_cell (j := 2) hbk0 rfl
  have y3 := block_cell (j := 3) hbk0 rfl
  have y4 := block_cell (j := 4) hbk0 rfl
  have y5 := block_cell (j := 5) hbk0 rfl
  have y6 := block_cell (j := 6) hbk0 rfl
  obtain ⟨oaq, ocq, uaq, ucq, hbkq, hoq, huq⟩ := HQ1.out
  have z0 := block_cell (j := 0) hbkq rfl
  have z1 := block_cell (j := 1) hbkq rfl
  have z2 := block_cell (j := 2) hbkq rfl
  have HC := Lib.hid (prepare_any r p _ _ _ _ _ _ _ _ _ hrd0 hoq huq)
  simp only [repV, pshV] at HC
  clear hbk0 hrd0 hbkq hoq huq
  rw [Hx1.out] at y0 y1 y2 y3 y4 y5 y6 z0 z1 z2 HC
  go_wp2_with fail
  refine HC.out.mono ?_
  rintro e u1 ⟨sv5, rv5, ov5, uv5, rfl, hv, hb⟩
  rw [← Hx1.out] at hb
  generalize hA : prepR r p = A at *
  obtain ⟨sa5, sc5, rfl⟩ := hv.store.vshape
  obtain ⟨⟨ra5, rc5⟩, rfl⟩ := hv.refs.shape
  obtain ⟨oa5, oc5, rfl⟩ := hv.objs.vshape
  obtain ⟨⟨ua5, uc5⟩, rfl⟩ := hv.upds.shape
  have hbA : Below u1.heap.size u1 (u1.alloc (.cells #[.slice sa5 A.store.length sc5, .slice ra5 A.refs.length rc5, .int .i64 A.gen, .int .i64 A.phase, .slice oa5 A.pend.objects.length oc5, .slice ua5 A.pend.updates.length uc5, .bool A.pend.force] 28)) := (Below.refl _ _).alloc (Nat.le_refl _) _
  have HB2 := Lib.hid (below_next (below_next HB1.out hb) hbA)
  have HG2 := Lib.hid (show Bag (fun _ => True) (u1.alloc (.cells #[.slice sa5 A.store.length sc5, .slice ra5 A.refs.length rc5, .int .i64 A.gen, .int .i64 A.phase, .slice oa5 A.pend.objects.length oc5, .slice ua5 A.pend.updates.length uc5, .bool A.pend.force] 28)) ((u1.heap.size, A) :: _) from ⟨⟨_, _, _, _, _, _, _, _, heap_alloc_new u1 _, (hv.below hbA).weaken fun _ _ => trivial⟩, (HG1.out.below hb).below hbA⟩)
  have HQ2 := Lib.hid ((HQ1.out.below hb).below hbA)
  have HT2 := Lib.hid ((HT1.out.below hb).below hbA)
  have HA := Lib.hid hA
  clear hA hv hb hbA HC HB1 HG1 HQ1 HT1 y0 y1 y2 y3 y4 y5 y6 z0 z1 z2
  simp only [repV]
  obtain ⟨sa0, sc0, ra0, rc0, oa0, oc0, ua0, uc0, hbk0, hrd0⟩ := HG2.out.2.1
  have y0 := block_cell (j := 0) hbk0 rfl
  have y1 := block_cell (j := 1) hbk0 rfl
  have y2 := block_cell (j := 2) hbk0 rfl
  have y3 := block_cell (j := 3) hbk0 rfl
  have y4 := block_cell (j := 4) hbk0 rfl
  have y5 := block_cell (j := 5) hbk0 rfl
  have y6 := block_cell (j := 6) hbk0 rfl
  have HC := Lib.hid (vote_any r _ _ _ _ _ _ hrd0 HT2.out)
  simp only [repV] at HC
  clear hbk0 hrd0
  go_wp2_with fail
  refine HC.out.mono ?_
  rintro e u2 ⟨sv5, rv5, ov5, uv5, rfl, hv, hb⟩
  generalize u1.heap.size = D7 at *
  generalize u1.alloc (.cells #[.slice sa5 A.store.length sc5, .slice ra5 A.refs.length rc5, .int .i64 A.gen, .int .i64 A.phase, .slice oa5 A.pend.objects.length oc5, .slice ua5 A.pend.updates.length uc5, .bool A.pend.force] 28) = x2 at *
  generalize hA : votR r = B at *
  obtain ⟨sa5, sc5, rfl⟩ := hv.store.vshape
  obtain ⟨⟨ra5, rc5⟩, rfl⟩ := hv.refs.shape
  obtain ⟨oa5, oc5, rfl⟩ := hv.objs.vshape
  obtain ⟨⟨ua5, uc5⟩, rfl⟩ := hv.upds.shape
  have hbA : Below u2.heap.size u2 (u2.alloc (.cells #[.slice sa5 B.store.length sc5, .slice ra5 B.refs.length rc5, .int .i64 B.gen, .int .i64 B.phase, .slice oa5 B.pend.objects.length oc5, .slice ua5 B.pend.updates.length uc5, .bool B.pend.force] 28)) := (Below.refl _ _).alloc (Nat.le_refl _) _
  have HB3 := Lib.hid (below_next (below_next HB2.out hb) hbA)
  have HG3 := Lib.hid (show Bag (fun _ => True) (u2.alloc (.cells #[.slice sa5 B.store.length sc5, .slice ra5 B.refs.length rc5, .int .i64 B.gen, .int .i64 B.phase, .slice oa5 B.pend.objects.length oc5, .slice ua5 B.pend.updates.length uc5, .bool B.pend.force] 28)) ((u2.heap.size, B) :: _) from ⟨⟨_, _, _, _, _, _, _, _, heap_alloc_new u2 _, (hv.below hbA).weaken fun _ _ => trivial⟩, (HG2.out.below hb).below hbA⟩)
  have HQ3 := Lib.hid ((HQ2.out.below hb).below hbA)
  have HT3 := Lib.hid ((HT2.out.below hb).below hbA)
  have HB := Lib.hid hA
  clear hA hv hb hbA HC HB2 HG2 HQ2 HT2 y0 y1 y2 y3 y4 y5 y6
  simp only [repV]
  obtain ⟨sa0, sc0, ra0, rc0, oa0, oc0, ua0, uc0, hbk0, hrd0⟩ := HG3.out.2.2.1
  have y0 := block_cell (j := 0) hbk0 rfl
  have y1 := block_cell (j := 1) hbk0 rfl
  have y2 := block_cell (j := 2) hbk0 rfl
  have y3 := block_cell (j := 3) hbk0 rfl
  have y4 := block_cell (j := 4) hbk0 rfl
  have y5 := block_cell (j := 5) hbk0 rfl
  have y6 := block_cell (j := 6) hbk0 rfl
  have HC := Lib.hid (finish_any r cm _ _ _ _ _ _ hrd0)
  simp only [repV] at HC
  clear hbk0 hrd0
  go_wp2_with fail
  refine HC.out.mono ?_
  rintro e u3 ⟨sv5, rv5, ov5, uv5, rfl, hv, hb⟩
  generalize u2.heap.size = D9 at *
  generalize u2.alloc (.cells #[.slice sa5 B.store.length sc5, .slice ra5 B.refs.length rc5, .int .i64 B.gen, .int .i64 B.phase, .slice oa5 B.pend.objects.length oc5, .slice ua5 B.pend.updates.length uc5, .bool B.pend.force] 28) = x3 at *
  generalize hA : finR r cm = C at *
  obtain ⟨sa5, sc5, rfl⟩ := hv.store.vshape
  obtain ⟨⟨ra5, rc5⟩, rfl⟩ := hv.refs.shape
  obtain ⟨oa5, oc5, rfl⟩ := hv.objs.vshape
  obtain ⟨⟨ua5, uc5⟩, rfl⟩ := hv.upds.shape
  have hbA : Below u3.heap.size u3 (u3.alloc (.cells #[.slice sa5 C.store.length sc5, .slice ra5 C.refs.length rc5, .int .i64 C.gen, .int .i64 C.phase, .slice oa5 C.pend.objects.length oc5, .slice ua5 C.pend.updates.length uc5, .bool C.pend.force] 28)) := (Below.refl _ _).alloc (Nat.le_refl _) _
  have HB4 := Lib.hid (below_next (below_next HB3.out hb) hbA)
  have HG4 := Lib.hid (show Bag (fun _ => True) (u3.alloc (.cells #[.slice sa5 C.store.length sc5, .slice ra5 C.refs.length rc5, .int .i64 C.gen, .int .i64 C.phase, .slice oa5 C.pend.objects.length oc5, .slice ua5 C.pend.updates.length uc5, .bool C.pend.force] 28)) ((u3.heap.size, C) :: _) from ⟨⟨_, _, _, _, _, _, _, _, heap_alloc_new u3 _, (hv.below hbA).weaken fun _ _ => trivial⟩, (HG3.out.below hb).below hbA⟩)
  have HQ4 := Lib.hid ((HQ3.out.below hb).below hbA)
  have HT4 := Lib.hid ((HT3.out.below hb).below hbA)
  have HC_ := Lib.hid hA
  clear hA hv hb hbA HC HB3 HG3 HQ3 HT3 y0 y1 y2 y3 y4 y5 y6
  simp only [repV]
  obtain ⟨sa0, sc0, ra0, rc0, oa0, oc0, ua0, uc0, hbk0, hrd0⟩ := HG4.out.2.2.2.1
  have y0 := block_cell (j := 0) hbk0 rfl
  have y1 := block_cell (j := 1) hbk0 rfl
  have y2 := block_cell (j := 2) hbk0 rfl
  have y3 := block_cell (j := 3) hbk0 rfl
  have y4 := block_cell (j := 4) hbk0 rfl
  have y5 := block_cell (j := 5) hbk0 rfl
  have y6 := block_cell (j := 6) hbk0 rfl
  have HC := Lib.hid (crash_any r _ _ _ _ _ _ hrd0)
  simp only [repV] at HC
  clear hbk0 hrd0
  go_wp2_with fail
  refine HC.out.mono ?_
  rintro e u4 ⟨sv5, rv5, ov5, uv5, rfl, hv, hb⟩
  generalize u3.heap.size = D12 at *
  generalize u3.alloc (.cells #[.slice sa5 C.store.length sc5, .slice ra5 C.refs.length rc5, .int .i64 C.gen, .int .i64 C.phase, .slice oa5 C.pend.objects.length oc5, .slice ua5 C.pend.updates.length uc5, .bool C.pend.force] 28) = x4 at *
  generalize hA : craR r = F at *
  obtain ⟨sa5, sc5, rfl⟩ := hv.store.vshape
  obtain ⟨⟨ra5, rc5⟩, rfl⟩ := hv.refs.shape
  obtain ⟨oa5, oc5, rfl⟩ := hv.objs.vshape
  obtain ⟨⟨ua5, uc5⟩, rfl⟩ := hv.upds.shape
  have hbA : Below u4.heap.size u4 (u4.alloc (.cells #[.slice sa5 F.store.length sc5, .slice ra5 F.refs.length rc5, .int .i64 F.gen, .int .i64 F.phase, .slice oa5 F.pend.objects.length oc5, .slice ua5 F.pend.updates.length uc5, .bool F.pend.force] 28)) := (Below.refl _ _).alloc (Nat.le_refl _) _
  have HB5 := Lib.hid (below_next (below_next HB4.out hb) hbA)
  have HG5 := Lib.hid (show Bag (fun _ => True) (u4.alloc (.cells #[.slice sa5 F.store.length sc5, .slice ra5 F.refs.length rc5, .int .i64 F.gen, .int .i64 F.phase, .slice oa5 F.pend.objects.length oc5, .slice ua5 F.pend.updates.length uc5, .bool F.pend.force] 28)) ((u4.heap.size, F) :: _) from ⟨⟨_, _, _, _, _, _, _, _, heap_alloc_new u4 _, (hv.below hbA).weaken fun _ _ => trivial⟩, (HG4.out.below hb).below hbA⟩)
  have HQ5 := Lib.hid ((HQ4.out.below hb).below hbA)
  have HT5 := Lib.hid ((HT4.out.below hb).below hbA)
  have HF := Lib.hid hA
  clear hA hv hb hbA HC HB4 HG4 HQ4 HT4 y0 y1 y2 y3 y4 y5 y6
  simp only [repV]
  obtain ⟨sa0, sc0, ra0, rc0, oa0, oc0, ua0, uc0, hbk0, hrd0⟩ := HG5.out.2.2.2.2.1
  have y0 := block_cell (j := 0) hbk0 rfl
  have y1 := block_cell (j := 1) hbk0 rfl
  have y2 := block_cell (j := 2) hbk0 rfl
  have y3 := block_cell (j := 3) hbk0 rfl
  have y4 := block_cell (j := 4) hbk0 rfl
  have y5 := block_cell (j := 5) hbk0 rfl
  have y6 := block_cell (j := 6) hbk0 rfl
  have HC := Lib.hid (checkReplica_any r _ _ _ _ _ _ hrd0)
  simp only [repV] at HC
  clear hbk0 hrd0
  go_wp2_with fail
  refine HC.out.mono ?_
  rintro e x6 ⟨rfl, hb⟩
  generalize u4.heap.size = D14 at *
  generalize u4.alloc (.cells #[.slice sa5 F.store.length sc5, .slice ra5 F.refs.length rc5, .int .i64 F.gen, .int .i64 F.phase, .slice oa5 F.pend.objects.length oc5, .slice ua5 F.pend.updates.length uc5, .bool F.pend.force] 28) = x5 at *
  have HB6 := Lib.hid (below_next HB5.out hb)
  have HG6 := Lib.hid (HG5.out.below hb)
  have HQ6 := Lib.hid (HQ5.out.below hb)
  have HT6 := Lib.hid (HT5.out.below hb)
  clear hb HC HB5 HG5 HQ5 HT5 Hx1 y0 y1 y2 y3 y4 y5 y6
  obtain ⟨Rv, hRv, hRv1, HBv⟩ := cls_allocs x6 [.cells #[.slice none 0 0, .slice none 0 0, .int .i64 0, .int .i64 0, .slice none 0 0, .slice none 0 0, .bool false] 28, .cells #[.slice none 0 0, .slice none 0 0, .int .i64 0, .int .i64 0, .slice none 0 0, .slice none 0 0, .bool false] 28, .cells #[.slice none 0 0, .slice none 0 0, .int .i64 0, .int .i64 0, .slice none 0 0, .slice none 0 0, .bool false] 28, .cells #[.slice none 0 0, .slice none 0 0, .int .i64 0, .int .i64 0, .slice none 0 0, .slice none 0 0, .bool false] 28]
  simp only [List.foldl] at hRv1
  have hbv := hRv.below _ hRv1
  have HB7 := Lib.hid (below_next HB6.out hbv)
  have HG7 := Lib.hid ((HG6.out.lt.weaken (P' := fun b => b < x6.heap.size ∨ x6.heap.size + 4 ≤ b) (fun b hb => .inl hb.2)).below hbv)
  have HQ7 := Lib.hid ((HQ6.out.lt.weaken (P' := fun b => b < x6.heap.size ∨ x6.heap.size + 4 ≤ b) (fun b hb => .inl hb.2)).below hbv)
  have HT7 := Lib.hid (HT6.out.below hbv)
  have HTw := HTb
  have HV7 := Lib.hid (show Bag (fun b => b < x6.heap.size ∨ x6.heap.size + 4 ≤ b) ((((x6.alloc (.cells #[.slice none 0 0, .slice none 0 0, .int .i64 0, .int .i64 0, .slice none 0 0, .slice none 0 0, .bool false] 28)).alloc (.cells #[.slice none 0 0, .slice none 0 0, .int .i64 0, .int .i64 0, .slice none 0 0, .slice none 0 0, .bool false] 28)).alloc (.cells #[.slice none 0 0, .slice none 0 0, .int .i64 0, .int .i64 0, .slice none 0 0, .slice none 0 0, .bool false] 28)).alloc (.cells #[.slice none 0 0, .slice none 0 0, .int .i64 0, .int .i64 0, .slice none 0 0, .slice none 0 0, .bool false] 28)) [(x6.heap.size, rep0), (x6.heap.size + 1, rep0), (x6.heap.size + 1 + 1, rep0), (x6.heap.size + 1 + 1 + 1, rep0)] from ⟨BoxP.zero _ (HBv _ hRv1 0 _ rfl), BoxP.zero _ (HBv _ hRv1 1 _ rfl), BoxP.zero _ (HBv _ hRv1 2 _ rfl), BoxP.zero _ (HBv _ hRv1 3 _ rfl), trivial⟩)
  have HDs := Lib.hid (show D7 < x6.heap.size ∧ D9 < x6.heap.size ∧ D12 < x6.heap.size ∧ D14 < x6.heap.size ∧ w.heap.size + 1 < x6.heap.size from ⟨HG6.out.2.2.2.1.dlt, HG6.out.2.2.1.dlt, HG6.out.2.1.dlt, HG6.out.1.dlt, let ⟨_, _, _, _, h1, _⟩ := HQ6.out; lt_of_block h1⟩)
  clear hbv HBv hRv1 hRv HB6 HG6 HQ6 HT6
  by_cases hc : repCheck r = 0
  case neg =>
    obtain ⟨⟨w1, w2⟩, ⟨w3, w4, w5⟩, ⟨w6, w7⟩, w8⟩ := wrong_all hc p cm
    have hA : A = rep0 := HA.out.symm.trans w2
    have hB : B = rep0 := HB.out.symm.trans w4
    have hC : C = rep0 := HC_.out.symm.trans w7
    have hF : F = rep0 := HF.out.symm.trans w8
    rw [w1, w3, w5, w6]
    have heq := repIsB_bad rep0 rep0 (repCheck r) hc rfl
    subst hA hB hC hF
    have q1 : (repCheck r == 0) = false := by simpa using hc
    have q2 : (repCheck r == repCheck r) = true := by simp
    have q3 : (ByteArray.empty.toList == []) = true := by decide +kernel
    have q4 : ByteArray.empty.toList.isEmpty = true := by decide +kernel
    obtain ⟨c, hcc⟩ : ∃ c, repCheck r = c := ⟨_, rfl⟩
    have HCc := Lib.hid hcc
    rw [hcc] at heq q1 q2 ⊢
    have Heq := Lib.hid heq
    clear hcc heq w1 w2 w3 w4 w5 w6 w7 w8 hc
    have HRB := Lib.hid (replicaBegun_any _ HT7.out)
    go_wp2_with fail
    refine HRB.out.mono ?_
    rintro e x8 ⟨rfl, hb8⟩
    replace HB7 := Lib.hid (below_next HB7.out hb8)
    replace HG7 := Lib.hid (HG7.out.below hb8)
    replace HT7 := Lib.hid (HT7.out.below hb8)
    replace HV7 := Lib.hid (HV7.out.below hb8)
    clear hb8
    obtain ⟨sa0, sc0, ra0, rc0, oa0, oc0, ua0, uc0, hbk0, hrd0⟩ := HG7.out.2.2.2.2.1
    have y0 := block_cell (j := 0) hbk0 rfl
    have y1 := block_cell (j := 1) hbk0 rfl
    have y2 := block_cell (j := 2) hbk0 rfl
    have y3 := block_cell (j := 3) hbk0 rfl
    have y4 := block_cell (j := 4) hbk0 rfl
    have y5 := block_cell (j := 5) hbk0 rfl
    have y6 := block_cell (j := 6) hbk0 rfl
    have HC := Lib.hid (repCheck_any r _ _ _ _ _ _ hrd0)
    simp only [repV] at HC
    rw [HCc.out] at HC
    clear hbk0 hrd0
    go_wp2_with fail
    refine HC.out.mono ?_
    rintro e x9 ⟨rfl, hb8⟩
    clear y0 y1 y2 y3 y4 y5 y6
    replace HB7 := Lib.hid (below_next HB7.out hb8)
    replace HG7 := Lib.hid (HG7.out.below hb8)
    replace HT7 := Lib.hid (HT7.out.below hb8)
    replace HV7 := Lib.hid (HV7.out.below hb8)
    clear hb8 HC
    obtain ⟨sa0, sc0, ra0, rc0, oa0, oc0, ua0, uc0, hbk0, hrd0⟩ := HG7.out.2.2.2.1
    have y0 := block_cell (j := 0) hbk0 rfl
    have y1 := block_cell (j := 1) hbk0 rfl
    have y2 := block_cell (j := 2) hbk0 rfl
    have y3 := block_cell (j := 3) hbk0 rfl
    have y4 := block_cell (j := 4) hbk0 rfl
    have y5 := block_cell (j := 5) hbk0 rfl
    have y6 := block_cell (j := 6) hbk0 rfl
    obtain ⟨sa1, sc1, ra1, rc1, oa1, oc1, ua1, uc1, hbk1, hrd1⟩ := HV7.out.1
    have z0 := block_cell (j := 0) hbk1 rfl
    have z1 := block_cell (j := 1) hbk1 rfl
    have z2 := block_cell (j := 2) hbk1 rfl
    have z3 := block_cell (j := 3) hbk1 rfl
    have z4 := block_cell (j := 4) hbk1 rfl
    have z5 := block_cell (j := 5) hbk1 rfl
    have z6 := block_cell (j := 6) hbk1 rfl
    have HC := Lib.hid (replicaIs_any _ rep0 c c _ _ _ _ _ _ _ _ _ _ _ hrd0 hrd1)
    rw [Heq.out] at HC
    simp only [repV] at HC
    clear hbk0 hrd0 hbk1 hrd1
    go_wp2_with fail
    refine HC.out.mono ?_
    rintro e x10 ⟨rfl, hb8⟩
    clear y0 y1 y2 y3 y4 y5 y6 z0 z1 z2 z3 z4 z5 z6
    replace HB7 := Lib.hid (below_next HB7.out hb8)
    replace HG7 := Lib.hid (HG7.out.below hb8)
    replace HT7 := Lib.hid (HT7.out.below hb8)
    replace HV7 := Lib.hid (HV7.out.below hb8)
    clear hb8 HC
    obtain ⟨sa0, sc0, ra0, rc0, oa0, oc0, ua0, uc0, hbk0, hrd0⟩ := HG7.out.2.2.1
    have y0 := block_cell (j := 0) hbk0 rfl
    have y1 := block_cell (j := 1) hbk0 rfl
    have y2 := block_cell (j := 2) hbk0 rfl
    have y3 := block_cell (j := 3) hbk0 rfl
    have y4 := block_cell (j := 4) hbk0 rfl
    have y5 := block_cell (j := 5) hbk0 rfl
    have y6 := block_cell (j := 6) hbk0 rfl
    obtain ⟨sa1, sc1, ra1, rc1, oa1, oc1, ua1, uc1, hbk1, hrd1⟩ := HV7.out.2.1
    have z0 := block_cell (j := 0) hbk1 rfl
    have z1 := block_cell (j := 1) hbk1 rfl
    have z2 := block_cell (j := 2) hbk1 rfl
    have z3 := block_cell (j := 3) hbk1 rfl
    have z4 := block_cell (j := 4) hbk1 rfl
    have z5 := block_cell (j := 5) hbk1 rfl
    have z6 := block_cell (j := 6) hbk1 rfl
    have HC := Lib.hid (replicaIs_any _ rep0 c c _ _ _ _ _ _ _ _ _ _ _ hrd0 hrd1)
    rw [Heq.out] at HC
    simp only [repV] at HC
    clear hbk0 hrd0 hbk1 hrd1
    go_wp2_with fail
    refine HC.out.mono ?_
    rintro e x11 ⟨rfl, hb8⟩
    clear y0 y1 y2 y3 y4 y5 y6 z0 z1 z2 z3 z4 z5 z6
    replace HB7 := Lib.hid (below_next HB7.out hb8)
    replace HG7 := Lib.hid (HG7.out.below hb8)
    replace HT7 := Lib.hid (HT7.out.below hb8)
    replace HV7 := Lib.hid (HV7.out.below hb8)
    clear hb8 HC
    obtain ⟨sa0, sc0, ra0, rc0, oa0, oc0, ua0, uc0, hbk0, hrd0⟩ := HG7.out.2.1
    have y0 := block_cell (j := 0) hbk0 rfl
    have y1 := block_cell (j := 1) hbk0 rfl
    have y2 := block_cell (j := 2) hbk0 rfl
    have y3 := block_cell (j := 3) hbk0 rfl
    have y4 := block_cell (j := 4) hbk0 rfl
    have y5 := block_cell (j := 5) hbk0 rfl
    have y6 := block_cell (j := 6) hbk0 rfl
    obtain ⟨sa1, sc1, ra1, rc1, oa1, oc1, ua1, uc1, hbk1, hrd1⟩ := HV7.out.2.2.1
    have z0 := block_cell (j := 0) hbk1 rfl
    have z1 := block_cell (j := 1) hbk1 rfl
    have z2 := block_cell (j := 2) hbk1 rfl
    have z3 := block_cell (j := 3) hbk1 rfl
    have z4 := block_cell (j := 4) hbk1 rfl
    have z5 := block_cell (j := 5) hbk1 rfl
    have z6 := block_cell (j := 6) hbk1 rfl
    have HC := Lib.hid (replicaIs_any _ rep0 c c _ _ _ _ _ _ _ _ _ _ _ hrd0 hrd1)
    rw [Heq.out] at HC
    simp only [repV] at HC
    clear hbk0 hrd0 hbk1 hrd1
    go_wp2_with fail
    refine HC.out.mono ?_
    rintro e x12 ⟨rfl, hb8⟩
    clear y0 y1 y2 y3 y4 y5 y6 z0 z1 z2 z3 z4 z5 z6
    replace HB7 := Lib.hid (below_next HB7.out hb8)
    replace HG7 := Lib.hid (HG7.out.below hb8)
    replace HT7 := Lib.hid (HT7.out.below hb8)
    replace HV7 := Lib.hid (HV7.out.below hb8)
    clear hb8 HC
    obtain ⟨sa0, sc0, ra0, rc0, oa0, oc0, ua0, uc0, hbk0, hrd0⟩ := HG7.out.1
    have y0 := block_cell (j := 0) hbk0 rfl
    have y1 := block_cell (j := 1) hbk0 rfl
    have y2 := block_cell (j := 2) hbk0 rfl
    have y3 := block_cell (j := 3) hbk0 rfl
    have y4 := block_cell (j := 4) hbk0 rfl
    have y5 := block_cell (j := 5) hbk0 rfl
    have y6 := block_cell (j := 6) hbk0 rfl
    obtain ⟨sa1, sc1, ra1, rc1, oa1, oc1, ua1, uc1, hbk1, hrd1⟩ := HV7.out.2.2.2.1
    have z0 := block_cell (j := 0) hbk1 rfl
    have z1 := block_cell (j := 1) hbk1 rfl
    have z2 := block_cell (j := 2) hbk1 rfl
    have z3 := block_cell (j := 3) hbk1 rfl
    have z4 := block_cell (j := 4) hbk1 rfl
    have z5 := block_cell (j := 5) hbk1 rfl
    have z6 := block_cell (j := 6) hbk1 rfl
    have HC := Lib.hid (replicaIs_any _ rep0 c c _ _ _ _ _ _ _ _ _ _ _ hrd0 hrd1)
    rw [Heq.out] at HC
    simp only [repV] at HC
    clear hbk0 hrd0 hbk1 hrd1
    go_wp2_with fail
    refine HC.out.mono ?_
    rintro e x13 ⟨rfl, hb8⟩
    clear y0 y1 y2 y3 y4 y5 y6 z0 z1 z2 z3 z4 z5 z6
    replace HB7 := Lib.hid (below_next HB7.out hb8)
    replace HG7 := Lib.hid (HG7.out.below hb8)
    replace HT7 := Lib.hid (HT7.out.below hb8)
    replace HV7 := Lib.hid (HV7.out.below hb8)
    clear hb8 HC
    have HE := HB7
    go_wp2_with fail
    go_ret
    exact ⟨rfl, HE.out⟩
  rw [hc]
  have hR := rep_right.1 hc
  have HCc := Lib.hid hc
  have HRr := Lib.hid hR
  have HE4 := Lib.hid (show repCheck r = 0 → craR r = idleR r from fun h => by unfold craR; rw [if_pos h])
  have hF : F = idleR r := HF.out.symm.trans (HE4.out hc)
  subst hF
  have Heq0 := Lib.hid (show repIsB A (prepE r p) (prepE r p) A = true by rw [← HA.out]; exact repIsB_same _ _ prepR_not)
  have Heq2 := Lib.hid (show repIsB C (finE r cm) (finE r cm) C = true by rw [← HC_.out]; exact repIsB_same _ _ finR_not)
  have Heq3 := Lib.hid (show repIsB (idleR r) 0 0 (idleR r) = true from repIsB_same _ _ (fun h => absurd rfl h))
  obtain ⟨sa0, sc0, ra0, rc0, oa0, oc0, ua0, uc0, hbk0, hrd0⟩ := HG7.out.2.2.2.2.1
  have y0 := block_cell (j := 0) hbk0 rfl
  have y1 := block_cell (j := 1) hbk0 rfl
  have y2 := block_cell (j := 2) hbk0 rfl
  have y3 := block_cell (j := 3) hbk0 rfl
  have y4 := block_cell (j := 4) hbk0 rfl
  have y5 := block_cell (j := 5) hbk0 rfl
  have y6 := block_cell (j := 6) hbk0 rfl
  obtain ⟨oaq, ocq, uaq, ucq, hbkq, hoq, huq⟩ := HQ7.out
  have z0 := block_cell (j := 0) hbkq rfl
  have z1 := block_cell (j := 1) hbkq rfl
  have z2 := block_cell (j := 2) hbkq rfl
  have HC := Lib.hid (prepareOf_any r p _ _ _ _ _ _ _ _ _ hrd0 hoq huq hc)
  simp only [repV, pshV] at HC
  clear hbk0 hrd0 hbkq hoq huq
  go_wp2_with fail
  refine HC.out.mono ?_
  rintro e yw ⟨sv5, rv5, ov5, uv5, rfl, hv, hb⟩
  rw [HA.out] at hv ⊢
  obtain ⟨sa5, sc5, rfl⟩ := hv.store.vshape
  obtain ⟨⟨ra5, rc5⟩, rfl⟩ := hv.refs.shape
  obtain ⟨oa5, oc5, rfl⟩ := hv.objs.vshape
  obtain ⟨⟨ua5, uc5⟩, rfl⟩ := hv.upds.shape
  replace HB7 := Lib.hid (below_next HB7.out hb)
  replace HG7 := Lib.hid (HG7.out.below hb)
  replace HQ7 := Lib.hid (HQ7.out.below hb)
  replace HT7 := Lib.hid (HT7.out.below hb)
  replace HV7 := Lib.hid (HV7.out.below hb)
  have Hv5 := Lib.hid (hv.weaken (S' := fun b => b < x6.heap.size ∨ x6.heap.size + 4 ≤ b) (fun b hb => by rcases hb with h | h <;> exact h))
  clear hv hb HC y0 y1 y2 y3 y4 y5 y6 z0 z1 z2
  simp only [repV]
  obtain ⟨_, _, _, _, _, _, _, _, hzz, _⟩ := HV7.out.1
  have ga0 := block_cell (j := 0) hzz rfl
  have fa0 := block_free (j := 0) hzz
  have ga1 := block_cell (j := 1) hzz rfl
  have fa1 := block_free (j := 1) hzz
  have ga2 := block_cell (j := 2) hzz rfl
  have fa2 := block_free (j := 2) hzz
  have ga3 := block_cell (j := 3) hzz rfl
  have fa3 := block_free (j := 3) hzz
  have ga4 := block_cell (j := 4) hzz rfl
  have fa4 := block_free (j := 4) hzz
  have ga5 := block_cell (j := 5) hzz rfl
  have fa5 := block_free (j := 5) hzz
  have ga6 := block_cell (j := 6) hzz rfl
  have fa6 := block_free (j := 6) hzz
  have hU := set7_upd (x6.heap.size) (.slice sa5 A.store.length sc5) (.slice ra5 A.refs.length rc5) (.int .i64 A.gen) (.int .i64 A.phase) (.slice oa5 A.pend.objects.length oc5) (.slice ua5 A.pend.updates.length uc5) (.bool A.pend.force) yw
  have hW := set7_is (v0 := .slice sa5 A.store.length sc5) (v1 := .slice ra5 A.refs.length rc5) (v2 := .int .i64 A.gen) (v3 := .int .i64 A.phase) (v4 := .slice oa5 A.pend.objects.length oc5) (v5 := .slice ua5 A.pend.updates.length uc5) (v6 := .bool A.pend.force) hzz
  have HG8 := Lib.hid (HG7.out.upd hU (by intro x hx; have := HDs.out; simp only [List.mem_cons, List.not_mem_nil, or_false] at hx; rcases hx with rfl | rfl | rfl | rfl | rfl <;> ((try dsimp only); omega)) (fun b hb e => by omega))
  have HQ8 := Lib.hid (HQ7.out.upd hU (by have := HDs.out; (try dsimp only); omega) (fun b hb e => by omega))
  have HV8 := Lib.hid (show Bag (fun b => b < x6.heap.size ∨ x6.heap.size + 4 ≤ b) (set7 (x6.heap.size) (.slice sa5 A.store.length sc5) (.slice ra5 A.refs.length rc5) (.int .i64 A.gen) (.int .i64 A.phase) (.slice oa5 A.pend.objects.length oc5) (.slice ua5 A.pend.updates.length uc5) (.bool A.pend.force) yw) [(x6.heap.size, A), (x6.heap.size + 1, rep0), (x6.heap.size + 1 + 1, rep0), (x6.heap.size + 1 + 1 + 1, rep0)] from ⟨⟨_, _, _, _, _, _, _, _, hW, RepIs.upd Hv5.out hU (fun b hb e => by omega)⟩, (HV7.out.2.1).upd hU (by (try dsimp only); omega) (fun b hb e => by omega), (HV7.out.2.2.1).upd hU (by (try dsimp only); omega) (fun b hb e => by omega), (HV7.out.2.2.2.1).upd hU (by (try dsimp only); omega) (fun b hb e => by omega), trivial⟩)
  have HB8 := Lib.hid (HB7.out.trans (hU.below (B := w.heap.size) HB7.out.size (fun b hb => by have := HDs.out; omega)))
  have HT8 := Lib.hid (HTw.out _ HB8.out)
  clear HG7 HQ7 HV7 HB7 HT7 hzz hU hW
  have HG7 := HG8
  clear HG8
  have HQ7 := HQ8
  clear HQ8
  have HV7 := HV8
  clear HV8
  have HB7 := HB8
  clear HB8
  have HT7 := HT8
  clear HT8
  have HVd := Lib.hid (show x6.heap.size + 4 ≤ (set7 (x6.heap.size) (.slice sa5 A.store.length sc5) (.slice ra5 A.refs.length rc5) (.int .i64 A.gen) (.int .i64 A.phase) (.slice oa5 A.pend.objects.length oc5) (.slice ua5 A.pend.updates.length uc5) (.bool A.pend.force) yw).heap.size from (HV7.out.2.2.2.1).dlt)
  obtain ⟨sa0, sc0, ra0, rc0, oa0, oc0, ua0, uc0, hbk0, hrd0⟩ := HG7.out.2.2.2.2.1
  have y0 := block_cell (j := 0) hbk0 rfl
  have y1 := block_cell (j := 1) hbk0 rfl
  have y2 := block_cell (j := 2) hbk0 rfl
  have y3 := block_cell (j := 3) hbk0 rfl
  have y4 := block_cell (j := 4) hbk0 rfl
  have y5 := block_cell (j := 5) hbk0 rfl
  have y6 := block_cell (j := 6) hbk0 rfl
  have HC := Lib.hid (finishOf_any r cm _ _ _ _ _ _ hrd0 hc)
  simp only [repV] at HC
  clear hbk0 hrd0 Hv5
  simp only [set7] at y0 y1 y2 y3 y4 y5 y6
  go_wp2_with fail
  refine HC.out.mono ?_
  rintro e ya ⟨sv6, rv6, ov6, uv6, rfl, hv, hb⟩
  rw [HC_.out] at hv ⊢
  obtain ⟨sa6, sc6, rfl⟩ := hv.store.vshape
  obtain ⟨⟨ra6, rc6⟩, rfl⟩ := hv.refs.shape
  obtain ⟨oa6, oc6, rfl⟩ := hv.objs.vshape
  obtain ⟨⟨ua6, uc6⟩, rfl⟩ := hv.upds.shape
  replace HB7 := Lib.hid (below_next HB7.out hb)
  replace HG7 := Lib.hid (HG7.out.below hb)
  replace HQ7 := Lib.hid (HQ7.out.below hb)
  replace HT7 := Lib.hid (HT7.out.below hb)
  replace HV7 := Lib.hid (HV7.out.below hb)
  have hs1 : x6.heap.size + 4 ≤ (set7 (x6.heap.size) (.slice sa5 A.store.length sc5) (.slice ra5 A.refs.length rc5) (.int .i64 A.gen) (.int .i64 A.phase) (.slice oa5 A.pend.objects.length oc5) (.slice ua5 A.pend.updates.length uc5) (.bool A.pend.force) yw).heap.size := HVd.out
  have Hv6 := Lib.hid (hv.weaken (S' := fun b => b < x6.heap.size ∨ x6.heap.size + 4 ≤ b) (fun b hb => by rcases hb with h | h; exact h; omega))
  clear hv hb HC hs1 y0 y1 y2 y3 y4 y5 y6 ga0 ga1 ga2 ga3 ga4 ga5 ga6 fa0 fa1 fa2 fa3 fa4 fa5 fa6
  simp only [repV]
  obtain ⟨_, _, _, _, _, _, _, _, hzz, _⟩ := HV7.out.2.2.1
  have gb0 := block_cell (j := 0) hzz rfl
  have fb0 := block_free (j := 0) hzz
  have gb1 := block_cell (j := 1) hzz rfl
  have fb1 := block_free (j := 1) hzz
  have gb2 := block_cell (j := 2) hzz rfl
  have fb2 := block_free (j := 2) hzz
  have gb3 := block_cell (j := 3) hzz rfl
  have fb3 := block_free (j := 3) hzz
  have gb4 := block_cell (j := 4) hzz rfl
  have fb4 := block_free (j := 4) hzz
  have gb5 := block_cell (j := 5) hzz rfl
  have fb5 := block_free (j := 5) hzz
  have gb6 := block_cell (j := 6) hzz rfl
  have fb6 := block_free (j := 6) hzz
  have hU := set7_upd (x6.heap.size + 1 + 1) (.slice sa6 C.store.length sc6) (.slice ra6 C.refs.length rc6) (.int .i64 C.gen) (.int .i64 C.phase) (.slice oa6 C.pend.objects.length oc6) (.slice ua6 C.pend.updates.length uc6) (.bool C.pend.force) ya
  have hW := set7_is (v0 := .slice sa6 C.store.length sc6) (v1 := .slice ra6 C.refs.length rc6) (v2 := .int .i64 C.gen) (v3 := .int .i64 C.phase) (v4 := .slice oa6 C.pend.objects.length oc6) (v5 := .slice ua6 C.pend.updates.length uc6) (v6 := .bool C.pend.force) hzz
  have HG8 := Lib.hid (HG7.out.upd hU (by intro x hx; have := HDs.out; simp only [List.mem_cons, List.not_mem_nil, or_false] at hx; rcases hx with rfl | rfl | rfl | rfl | rfl <;> ((try dsimp only); omega)) (fun b hb e => by omega))
  have HQ8 := Lib.hid (HQ7.out.upd hU (by have := HDs.out; (try dsimp only); omega) (fun b hb e => by omega))
  have HV8 := Lib.hid (show Bag (fun b => b < x6.heap.size ∨ x6.heap.size + 4 ≤ b) (set7 (x6.heap.size + 1 + 1) (.slice sa6 C.store.length sc6) (.slice ra6 C.refs.length rc6) (.int .i64 C.gen) (.int .i64 C.phase) (.slice oa6 C.pend.objects.length oc6) (.slice ua6 C.pend.updates.length uc6) (.bool C.pend.force) ya) [(x6.heap.size, A), (x6.heap.size + 1, rep0), (x6.heap.size + 1 + 1, C), (x6.heap.size + 1 + 1 + 1, rep0)] from ⟨(HV7.out.1).upd hU (by (try dsimp only); omega) (fun b hb e => by omega), (HV7.out.2.1).upd hU (by (try dsimp only); omega) (fun b hb e => by omega), ⟨_, _, _, _, _, _, _, _, hW, RepIs.upd Hv6.out hU (fun b hb e => by omega)⟩, (HV7.out.2.2.2.1).upd hU (by (try dsimp only); omega) (fun b hb e => by omega), trivial⟩)
  have HB8 := Lib.hid (HB7.out.trans (hU.below (B := w.heap.size) HB7.out.size (fun b hb => by have := HDs.out; omega)))
  have HT8 := Lib.hid (HTw.out _ HB8.out)
  clear HG7 HQ7 HV7 HB7 HT7 hzz hU hW
  have HG7 := HG8
  clear HG8
  have HQ7 := HQ8
  clear HQ8
  have HV7 := HV8
  clear HV8
  have HB7 := HB8
  clear HB8
  have HT7 := HT8
  clear HT8
  obtain ⟨sa0, sc0, ra0, rc0, oa0, oc0, ua0, uc0, hbk0, hrd0⟩ := HG7.out.2.2.2.2.1
  have y0 := block_cell (j := 0) hbk0 rfl
  have y1 := block_cell (j := 1) hbk0 rfl
  have y2 := block_cell (j := 2) hbk0 rfl
  have y3 := block_cell (j := 3) hbk0 rfl
  have y4 := block_cell (j := 4) hbk0 rfl
  have y5 := block_cell (j := 5) hbk0 rfl
  have y6 := block_cell (j := 6) hbk0 rfl
  have HC := Lib.hid (idleOf_any r _ _ _ _ _ _ hrd0)
  simp only [repV] at HC
  clear hbk0 hrd0 Hv6
  simp only [set7] at y0 y1 y2 y3 y4 y5 y6
  go_wp2_with fail
  refine HC.out.mono ?_
  rintro e yb ⟨sv7, rv7, rfl, hv, hb⟩
  obtain ⟨sa7, sc7, rfl⟩ := hv.store.vshape
  obtain ⟨⟨ra7, rc7⟩, rfl⟩ := hv.refs.shape
  replace HB7 := Lib.hid (below_next HB7.out hb)
  replace HG7 := Lib.hid (HG7.out.below hb)
  replace HQ7 := Lib.hid (HQ7.out.below hb)
  replace HT7 := Lib.hid (HT7.out.below hb)
  replace HV7 := Lib.hid (HV7.out.below hb)
  have Hv7 := Lib.hid hv
  clear hv hb HC y0 y1 y2 y3 y4 y5 y6 gb0 gb1 gb2 gb3 gb4 gb5 gb6 fb0 fb1 fb2 fb3 fb4 fb5 fb6
  try simp only [repV]
  obtain ⟨_, _, _, _, _, _, _, _, hzz, _⟩ := HV7.out.2.2.2.1
  have gc0 := block_cell (j := 0) hzz rfl
  have fc0 := block_free (j := 0) hzz
  have gc1 := block_cell (j := 1) hzz rfl
  have fc1 := block_free (j := 1) hzz
  have gc2 := block_cell (j := 2) hzz rfl
  have fc2 := block_free (j := 2) hzz
  have gc3 := block_cell (j := 3) hzz rfl
  have fc3 := block_free (j := 3) hzz
  have gc4 := block_cell (j := 4) hzz rfl
  have fc4 := block_free (j := 4) hzz
  have gc5 := block_cell (j := 5) hzz rfl
  have fc5 := block_free (j := 5) hzz
  have gc6 := block_cell (j := 6) hzz rfl
  have fc6 := block_free (j := 6) hzz
  have hU := set7_upd (x6.heap.size + 1 + 1 + 1) (.slice sa7 (idleR r).store.length sc7) (.slice ra7 (idleR r).refs.length rc7) (.int .i64 (idleR r).gen) (.int .i64 (idleR r).phase) (.slice none 0 0) (.slice none 0 0) (.bool (idleR r).pend.force) yb
  have hW := set7_is (v0 := .slice sa7 (idleR r).store.length sc7) (v1 := .slice ra7 (idleR r).refs.length rc7) (v2 := .int .i64 (idleR r).gen) (v3 := .int .i64 (idleR r).phase) (v4 := .slice none 0 0) (v5 := .slice none 0 0) (v6 := .bool (idleR r).pend.force) hzz
  have HG8 := Lib.hid (HG7.out.upd hU (by intro x hx; have := HDs.out; simp only [List.mem_cons, List.not_mem_nil, or_false] at hx; rcases hx with rfl | rfl | rfl | rfl | rfl <;> ((try dsimp only); omega)) (fun b hb e => by omega))
  have HQ8 := Lib.hid (HQ7.out.upd hU (by have := HDs.out; (try dsimp only); omega) (fun b hb e => by omega))
  have HV8 := Lib.hid (show Bag (fun b => b < x6.heap.size ∨ x6.heap.size + 4 ≤ b) (set7 (x6.heap.size + 1 + 1 + 1) (.slice sa7 (idleR r).store.length sc7) (.slice ra7 (idleR r).refs.length rc7) (.int .i64 (idleR r).gen) (.int .i64 (idleR r).phase) (.slice none 0 0) (.slice none 0 0) (.bool (idleR r).pend.force) yb) [(x6.heap.size, A), (x6.heap.size + 1, rep0), (x6.heap.size + 1 + 1, C), (x6.heap.size + 1 + 1 + 1, idleR r)] from ⟨(HV7.out.1).upd hU (by (try dsimp only); omega) (fun b hb e => by omega), (HV7.out.2.1).upd hU (by (try dsimp only); omega) (fun b hb e => by omega), (HV7.out.2.2.1).upd hU (by (try dsimp only); omega) (fun b hb e => by omega), ⟨_, _, _, _, _, _, _, _, hW, RepIs.upd Hv7.out hU (fun b hb e => by omega)⟩, trivial⟩)
  have HB8 := Lib.hid (HB7.out.trans (hU.below (B := w.heap.size) HB7.out.size (fun b hb => by have := HDs.out; omega)))
  have HT8 := Lib.hid (HTw.out _ HB8.out)
  clear HG7 HQ7 HV7 HB7 HT7 hzz hU hW
  have HG7 := HG8
  clear HG8
  have HQ7 := HQ8
  clear HQ8
  have HV7 := HV8
  clear HV8
  have HB7 := HB8
  clear HB8
  have HT7 := HT8
  clear HT8
  obtain ⟨sa0, sc0, ra0, rc0, oa0, oc0, ua0, uc0, hbk0, hrd0⟩ := HG7.out.2.2.2.2.1
  have y0 := block_cell (j := 0) hbk0 rfl
  have y1 := block_cell (j := 1) hbk0 rfl
  have y2 := block_cell (j := 2) hbk0 rfl
  have y3 := block_cell (j := 3) hbk0 rfl
  have y4 := block_cell (j := 4) hbk0 rfl
  have y5 := block_cell (j := 5) hbk0 rfl
  have y6 := block_cell (j := 6) hbk0 rfl
  have Hr0 := Lib.hid hrd0
  clear hbk0 hrd0
  obtain ⟨_, _, _, _, _, _, _, _, hzz, _⟩ := HV7.out.2.1
  have gd0 := block_cell (j := 0) hzz rfl
  have fd0 := block_free (j := 0) hzz
  have gd1 := block_cell (j := 1) hzz rfl
  have fd1 := block_free (j := 1) hzz
  have gd2 := block_cell (j := 2) hzz rfl
  have fd2 := block_free (j := 2) hzz
  have gd3 := block_cell (j := 3) hzz rfl
  have fd3 := block_free (j := 3) hzz
  have gd4 := block_cell (j := 4) hzz rfl
  have fd4 := block_free (j := 4) hzz
  have gd5 := block_cell (j := 5) hzz rfl
  have fd5 := block_free (j := 5) hzz
  have gd6 := block_cell (j := 6) hzz rfl
  have fd6 := block_free (j := 6) hzz
  have hU := set7_upd (x6.heap.size + 1) (.slice sa0 r.store.length sc0) (.slice ra0 r.refs.length rc0) (.int .i64 r.gen) (.int .i64 r.phase) (.slice oa0 r.pend.objects.length oc0) (.slice ua0 r.pend.updates.length uc0) (.bool r.pend.force) (set7 (x6.heap.size + 1 + 1 + 1) (.slice sa7 (idleR r).store.length sc7) (.slice ra7 (idleR r).refs.length rc7) (.int .i64 (idleR r).gen) (.int .i64 (idleR r).phase) (.slice none 0 0) (.slice none 0 0) (.bool (idleR r).pend.force) yb)
  have hW := set7_is (v0 := .slice sa0 r.store.length sc0) (v1 := .slice ra0 r.refs.length rc0) (v2 := .int .i64 r.gen) (v3 := .int .i64 r.phase) (v4 := .slice oa0 r.pend.objects.length oc0) (v5 := .slice ua0 r.pend.updates.length uc0) (v6 := .bool r.pend.force) hzz
  have HG8 := Lib.hid (HG7.out.upd hU (by intro x hx; have := HDs.out; simp only [List.mem_cons, List.not_mem_nil, or_false] at hx; rcases hx with rfl | rfl | rfl | rfl | rfl <;> ((try dsimp only); omega)) (fun b hb e => by omega))
  have HQ8 := Lib.hid (HQ7.out.upd hU (by have := HDs.out; (try dsimp only); omega) (fun b hb e => by omega))
  have HV8 := Lib.hid (show Bag (fun b => b < x6.heap.size ∨ x6.heap.size + 4 ≤ b) (set7 (x6.heap.size + 1) (.slice sa0 r.store.length sc0) (.slice ra0 r.refs.length rc0) (.int .i64 r.gen) (.int .i64 r.phase) (.slice oa0 r.pend.objects.length oc0) (.slice ua0 r.pend.updates.length uc0) (.bool r.pend.force) (set7 (x6.heap.size + 1 + 1 + 1) (.slice sa7 (idleR r).store.length sc7) (.slice ra7 (idleR r).refs.length rc7) (.int .i64 (idleR r).gen) (.int .i64 (idleR r).phase) (.slice none 0 0) (.slice none 0 0) (.bool (idleR r).pend.force) yb)) [(x6.heap.size, A), (x6.heap.size + 1, r), (x6.heap.size + 1 + 1, C), (x6.heap.size + 1 + 1 + 1, idleR r)] from ⟨(HV7.out.1).upd hU (by (try dsimp only); omega) (fun b hb e => by omega), ⟨_, _, _, _, _, _, _, _, hW, RepIs.upd Hr0.out hU (fun b hb e => by omega)⟩, (HV7.out.2.2.1).upd hU (by (try dsimp only); omega) (fun b hb e => by omega), (HV7.out.2.2.2.1).upd hU (by (try dsimp only); omega) (fun b hb e => by omega), trivial⟩)
  have HB8 := Lib.hid (HB7.out.trans (hU.below (B := w.heap.size) HB7.out.size (fun b hb => by have := HDs.out; omega)))
  have HT8 := Lib.hid (HTw.out _ HB8.out)
  clear HG7 HQ7 HV7 HB7 HT7 hzz hU hW
  have HG7 := HG8
  clear HG8
  have HQ7 := HQ8
  clear HQ8
  have HV7 := HV8
  clear HV8
  have HB7 := HB8
  clear HB8
  have HT7 := HT8
  clear HT8
  obtain ⟨_, _, _, _, _, _, _, _, hzz, hrz⟩ := HV7.out.2.1
  have ge3 := block_cell (j := 3) hzz rfl
  have fe3 := block_free (j := 3) hzz
  have hU : Upd (fun b => b = x6.heap.size + 1) (set7 (x6.heap.size + 1) (.slice sa0 r.store.length sc0) (.slice ra0 r.refs.length rc0) (.int .i64 r.gen) (.int .i64 r.phase) (.slice oa0 r.pend.objects.length oc0) (.slice ua0 r.pend.updates.length uc0) (.bool r.pend.force) (set7 (x6.heap.size + 1 + 1 + 1) (.slice sa7 (idleR r).store.length sc7) (.slice ra7 (idleR r).refs.length rc7) (.int .i64 (idleR r).gen) (.int .i64 (idleR r).phase) (.slice none 0 0) (.slice none 0 0) (.bool (idleR r).pend.force) yb)) ((set7 (x6.heap.size + 1) (.slice sa0 r.store.length sc0) (.slice ra0 r.refs.length rc0) (.int .i64 r.gen) (.int .i64 r.phase) (.slice oa0 r.pend.objects.length oc0) (.slice ua0 r.pend.updates.length uc0) (.bool r.pend.force) (set7 (x6.heap.size + 1 + 1 + 1) (.slice sa7 (idleR r).store.length sc7) (.slice ra7 (idleR r).refs.length rc7) (.int .i64 (idleR r).gen) (.int .i64 (idleR r).phase) (.slice none 0 0) (.slice none 0 0) (.bool (idleR r).pend.force) yb)).setCell ⟨x6.heap.size + 1, 3, none⟩ (.int .i64 2)) := (Upd.refl (fun b => b = x6.heap.size + 1) _).setCell (p := ⟨x6.heap.size + 1, 3, none⟩) (fun _ => rfl) _
  have hW := block_setCell (j := 3) hzz (.int .i64 2)
  simp only [List.setIfInBounds_toArray, List.set_cons_zero, List.set_cons_succ] at hW
  have HG8 := Lib.hid (HG7.out.upd hU (by intro x hx; have := HDs.out; simp only [List.mem_cons, List.not_mem_nil, or_false] at hx; rcases hx with rfl | rfl | rfl | rfl | rfl <;> ((try dsimp only); omega)) (fun b hb e => by omega))
  have HQ8 := Lib.hid (HQ7.out.upd hU (by have := HDs.out; (try dsimp only); omega) (fun b hb e => by omega))
  have HV8 := Lib.hid (show Bag (fun b => b < x6.heap.size ∨ x6.heap.size + 4 ≤ b) ((set7 (x6.heap.size + 1) (.slice sa0 r.store.length sc0) (.slice ra0 r.refs.length rc0) (.int .i64 r.gen) (.int .i64 r.phase) (.slice oa0 r.pend.objects.length oc0) (.slice ua0 r.pend.updates.length uc0) (.bool r.pend.force) (set7 (x6.heap.size + 1 + 1 + 1) (.slice sa7 (idleR r).store.length sc7) (.slice ra7 (idleR r).refs.length rc7) (.int .i64 (idleR r).gen) (.int .i64 (idleR r).phase) (.slice none 0 0) (.slice none 0 0) (.bool (idleR r).pend.force) yb)).setCell ⟨x6.heap.size + 1, 3, none⟩ (.int .i64 2)) [(x6.heap.size, A), (x6.heap.size + 1, votedR r), (x6.heap.size + 1 + 1, C), (x6.heap.size + 1 + 1 + 1, idleR r)] from ⟨(HV7.out.1).upd hU (by (try dsimp only); omega) (fun b hb e => by omega), ⟨_, _, _, _, _, _, _, _, hW, let h := RepIs.upd hrz hU (fun b hb e => by omega); ⟨h.store, h.refs, h.objs, h.upds, h.gen, by first | (show I64 0; unfold I64; decide) | (show I64 1; unfold I64; decide) | (show I64 2; unfold I64; decide)⟩⟩, (HV7.out.2.2.1).upd hU (by (try dsimp only); omega) (fun b hb e => by omega), (HV7.out.2.2.2.1).upd hU (by (try dsimp only); omega) (fun b hb e => by omega), trivial⟩)
  have HB8 := Lib.hid (HB7.out.trans (hU.below (B := w.heap.size) HB7.out.size (fun b hb => by have := HDs.out; omega)))
  have HT8 := Lib.hid (HTw.out _ HB8.out)
  clear HG7 HQ7 HV7 HB7 HT7 hzz hrz hU hW Hr0 Hv7
  have HG7 := HG8
  clear HG8
  have HQ7 := HQ8
  clear HQ8
  have HV7 := HV8
  clear HV8
  have HB7 := HB8
  clear HB8
  have HT7 := HT8
  clear HT8
  simp only [set7] at y0 y1 y2 y3 y4 y5 y6 gd0 gd1 gd2 gd3 gd4 gd5 gd6 fd0 fd1 fd2 fd3 fd4 fd5 fd6 ge3 fe3
  by_cases hph : r.phase = 1
  case neg =>
    obtain ⟨sa2, sc2, ra2, rc2, oa2, oc2, ua2, uc2, hbk2, hrd2⟩ := HG7.out.2.2.2.2.1
    have t0 := block_cell (j := 0) hbk2 rfl
    have t1 := block_cell (j := 1) hbk2 rfl
    have t2 := block_cell (j := 2) hbk2 rfl
    have t3 := block_cell (j := 3) hbk2 rfl
    have t4 := block_cell (j := 4) hbk2 rfl
    have t5 := block_cell (j := 5) hbk2 rfl
    have t6 := block_cell (j := 6) hbk2 rfl
    have Hr2 := Lib.hid hrd2
    clear hbk2 hrd2
    simp only [set7] at t0 t1 t2 t3 t4 t5 t6
    have hi : inE r 1 = 4 := inE_bad hc hph
    have hB : B = rep0 := HB.out.symm.trans (votR_not (by rw [hi]; decide))
    have hS : votS r = ByteArray.empty := by unfold votS; rw [hi]; rfl
    subst hB
    rw [hi, hS]
    have q5 : (r.phase != 1) = true := by simpa using hph
    have q3 : (ByteArray.empty.toList == []) = true := by decide +kernel
    have q4 : ByteArray.empty.toList.isEmpty = true := by decide +kernel
    have Heq1 := Lib.hid (repIsB_bad rep0 (votedR r) 4 (by decide) rfl)
    clear hi hS hph
    have HRB := Lib.hid (replicaBegun_any _ HT7.out)
    clear Hr2
    go_wp2_with fail
    refine HRB.out.mono ?_
    rintro e x8 ⟨rfl, hb8⟩
    replace HB7 := Lib.hid (below_next HB7.out hb8)
    replace HG7 := Lib.hid (HG7.out.below hb8)
    replace HT7 := Lib.hid (HT7.out.below hb8)
    replace HV7 := Lib.hid (HV7.out.below hb8)
    clear hb8
    obtain ⟨sa0, sc0, ra0, rc0, oa0, oc0, ua0, uc0, hbk0, hrd0⟩ := HG7.out.2.2.2.2.1
    have y0 := block_cell (j := 0) hbk0 rfl
    have y1 := block_cell (j := 1) hbk0 rfl
    have y2 := block_cell (j := 2) hbk0 rfl
    have y3 := block_cell (j := 3) hbk0 rfl
    have y4 := block_cell (j := 4) hbk0 rfl
    have y5 := block_cell (j := 5) hbk0 rfl
    have y6 := block_cell (j := 6) hbk0 rfl
    have HC := Lib.hid (repCheck_any r _ _ _ _ _ _ hrd0)
    simp only [repV] at HC
    rw [HCc.out] at HC
    clear hbk0 hrd0
    go_wp2_with fail
    refine HC.out.mono ?_
    rintro e x9 ⟨rfl, hb8⟩
    clear y0 y1 y2 y3 y4 y5 y6
    replace HB7 := Lib.hid (below_next HB7.out hb8)
    replace HG7 := Lib.hid (HG7.out.below hb8)
    replace HT7 := Lib.hid (HT7.out.below hb8)
    replace HV7 := Lib.hid (HV7.out.below hb8)
    clear hb8 HC
    obtain ⟨sa0, sc0, ra0, rc0, oa0, oc0, ua0, uc0, hbk0, hrd0⟩ := HG7.out.2.2.2.1
    have y0 := block_cell (j := 0) hbk0 rfl
    have y1 := block_cell (j := 1) hbk0 rfl
    have y2 := block_cell (j := 2) hbk0 rfl
    have y3 := block_cell (j := 3) hbk0 rfl
    have y4 := block_cell (j := 4) hbk0 rfl
    have y5 := block_cell (j := 5) hbk0 rfl
    have y6 := block_cell (j := 6) hbk0 rfl
    obtain ⟨sa1, sc1, ra1, rc1, oa1, oc1, ua1, uc1, hbk1, hrd1⟩ := HV7.out.1
    have z0 := block_cell (j := 0) hbk1 rfl
    have z1 := block_cell (j := 1) hbk1 rfl
    have z2 := block_cell (j := 2) hbk1 rfl
    have z3 := block_cell (j := 3) hbk1 rfl
    have z4 := block_cell (j := 4) hbk1 rfl
    have z5 := block_cell (j := 5) hbk1 rfl
    have z6 := block_cell (j := 6) hbk1 rfl
    have HC := Lib.hid (replicaIs_any _ A (prepE r p) (prepE r p) _ _ _ _ _ _ _ _ _ _ _ hrd0 hrd1)
    rw [Heq0.out] at HC
    simp only [repV] at HC
    clear hbk0 hrd0 hbk1 hrd1
    go_wp2_with fail
    refine HC.out.mono ?_
    rintro e x10 ⟨rfl, hb8⟩
    clear y0 y1 y2 y3 y4 y5 y6 z0 z1 z2 z3 z4 z5 z6
    replace HB7 := Lib.hid (below_next HB7.out hb8)
    replace HG7 := Lib.hid (HG7.out.below hb8)
    replace HT7 := Lib.hid (HT7.out.below hb8)
    replace HV7 := Lib.hid (HV7.out.below hb8)
    clear hb8 HC
    obtain ⟨sa0, sc0, ra0, rc0, oa0, oc0, ua0, uc0, hbk0, hrd0⟩ := HG7.out.2.2.1
    have y0 := block_cell (j := 0) hbk0 rfl
    have y1 := block_cell (j := 1) hbk0 rfl
    have y2 := block_cell (j := 2) hbk0 rfl
    have y3 := block_cell (j := 3) hbk0 rfl
    have y4 := block_cell (j := 4) hbk0 rfl
    have y5 := block_cell (j := 5) hbk0 rfl
    have y6 := block_cell (j := 6) hbk0 rfl
    obtain ⟨sa1, sc1, ra1, rc1, oa1, oc1, ua1, uc1, hbk1, hrd1⟩ := HV7.out.2.1
    have z0 := block_cell (j := 0) hbk1 rfl
    have z1 := block_cell (j := 1) hbk1 rfl
    have z2 := block_cell (j := 2) hbk1 rfl
    have z3 := block_cell (j := 3) hbk1 rfl
    have z4 := block_cell (j := 4) hbk1 rfl
    have z5 := block_cell (j := 5) hbk1 rfl
    have z6 := block_cell (j := 6) hbk1 rfl
    have HC := Lib.hid (replicaIs_any _ (votedR r) 4 4 _ _ _ _ _ _ _ _ _ _ _ hrd0 hrd1)
    rw [Heq1.out] at HC
    simp only [repV] at HC
    clear hbk0 hrd0 hbk1 hrd1
    go_wp2_with fail
    refine HC.out.mono ?_
    rintro e x11 ⟨rfl, hb8⟩
    clear y0 y1 y2 y3 y4 y5 y6 z0 z1 z2 z3 z4 z5 z6
    replace HB7 := Lib.hid (below_next HB7.out hb8)
    replace HG7 := Lib.hid (HG7.out.below hb8)
    replace HT7 := Lib.hid (HT7.out.below hb8)
    replace HV7 := Lib.hid (HV7.out.below hb8)
    clear hb8 HC
    obtain ⟨sa0, sc0, ra0, rc0, oa0, oc0, ua0, uc0, hbk0, hrd0⟩ := HG7.out.2.1
    have y0 := block_cell (j := 0) hbk0 rfl
    have y1 := block_cell (j := 1) hbk0 rfl
    have y2 := block_cell (j := 2) hbk0 rfl
    have y3 := block_cell (j := 3) hbk0 rfl
    have y4 := block_cell (j := 4) hbk0 rfl
    have y5 := block_cell (j := 5) hbk0 rfl
    have y6 := block_cell (j := 6) hbk0 rfl
    obtain ⟨sa1, sc1, ra1, rc1, oa1, oc1, ua1, uc1, hbk1, hrd1⟩ := HV7.out.2.2.1
    have z0 := block_cell (j := 0) hbk1 rfl
    have z1 := block_cell (j := 1) hbk1 rfl
    have z2 := block_cell (j := 2) hbk1 rfl
    have z3 := block_cell (j := 3) hbk1 rfl
    have z4 := block_cell (j := 4) hbk1 rfl
    have z5 := block_cell (j := 5) hbk1 rfl
    have z6 := block_cell (j := 6) hbk1 rfl
    have HC := Lib.hid (replicaIs_any _ C (finE r cm) (finE r cm) _ _ _ _ _ _ _ _ _ _ _ hrd0 hrd1)
    rw [Heq2.out] at HC
    simp only [repV] at HC
    clear hbk0 hrd0 hbk1 hrd1
    go_wp2_with fail
    refine HC.out.mono ?_
    rintro e x12 ⟨rfl, hb8⟩
    clear y0 y1 y2 y3 y4 y5 y6 z0 z1 z2 z3 z4 z5 z6
    replace HB7 := Lib.hid (below_next HB7.out hb8)
    replace HG7 := Lib.hid (HG7.out.below hb8)
    replace HT7 := Lib.hid (HT7.out.below hb8)
    replace HV7 := Lib.hid (HV7.out.below hb8)
    clear hb8 HC
    obtain ⟨sa0, sc0, ra0, rc0, oa0, oc0, ua0, uc0, hbk0, hrd0⟩ := HG7.out.1
    have y0 := block_cell (j := 0) hbk0 rfl
    have y1 := block_cell (j := 1) hbk0 rfl
    have y2 := block_cell (j := 2) hbk0 rfl
    have y3 := block_cell (j := 3) hbk0 rfl
    have y4 := block_cell (j := 4) hbk0 rfl
    have y5 := block_cell (j := 5) hbk0 rfl
    have y6 := block_cell (j := 6) hbk0 rfl
    obtain ⟨sa1, sc1, ra1, rc1, oa1, oc1, ua1, uc1, hbk1, hrd1⟩ := HV7.out.2.2.2.1
    have z0 := block_cell (j := 0) hbk1 rfl
    have z1 := block_cell (j := 1) hbk1 rfl
    have z2 := block_cell (j := 2) hbk1 rfl
    have z3 := block_cell (j := 3) hbk1 rfl
    have z4 := block_cell (j := 4) hbk1 rfl
    have z5 := block_cell (j := 5) hbk1 rfl
    have z6 := block_cell (j := 6) hbk1 rfl
    have HC := Lib.hid (replicaIs_any _ (idleR r) 0 0 _ _ _ _ _ _ _ _ _ _ _ hrd0 hrd1)
    rw [Heq3.out] at HC
    simp only [repV] at HC
    clear hbk0 hrd0 hbk1 hrd1
    go_wp2_with fail
    refine HC.out.mono ?_
    rintro e x13 ⟨rfl, hb8⟩
    clear y0 y1 y2 y3 y4 y5 y6 z0 z1 z2 z3 z4 z5 z6
    replace HB7 := Lib.hid (below_next HB7.out hb8)
    replace HG7 := Lib.hid (HG7.out.below hb8)
    replace HT7 := Lib.hid (HT7.out.below hb8)
    replace HV7 := Lib.hid (HV7.out.below hb8)
    clear hb8 HC
    have HE := HB7
    go_wp2_with fail
    go_ret
    exact ⟨rfl, HE.out⟩
  case pos =>
    obtain ⟨sa2, sc2, ra2, rc2, oa2, oc2, ua2, uc2, hbk2, hrd2⟩ := HG7.out.2.2.2.2.1
    have t0 := block_cell (j := 0) hbk2 rfl
    have t1 := block_cell (j := 1) hbk2 rfl
    have t2 := block_cell (j := 2) hbk2 rfl
    have t3 := block_cell (j := 3) hbk2 rfl
    have t4 := block_cell (j := 4) hbk2 rfl
    have t5 := block_cell (j := 5) hbk2 rfl
    have t6 := block_cell (j := 6) hbk2 rfl
    have Hr2 := Lib.hid hrd2
    clear hbk2 hrd2
    simp only [set7] at t0 t1 t2 t3 t4 t5 t6
    have hi : inE r 1 = 0 := inE_ok hc hph
    have hB : B = votedR r := HB.out.symm.trans (by unfold votR; rw [if_pos hi])
    have hS : votS r = voteR r r.pend := by unfold votS; rw [if_pos hi]
    subst hB
    rw [hi, hS]
    have q5 : (r.phase != 1) = false := by simpa using hph
    have q3 : ((voteR r r.pend).toList == (voteR r r.pend).toList) = true := by simp
    have Heq1 := Lib.hid (repIsB_same (votedR r) 0 (fun h => absurd rfl h))
    have HVo := Lib.hid (voteOf_any r r.pend _ _ _ _ _ _ _ _ _ _ _ Hr2.out.store Hr2.out.refs Hr2.out.objs Hr2.out.upds ⟨StoreV.shape3 Hr2.out.objs, MvsV.shape3 Hr2.out.upds⟩ (HRr.out.held (by rw [hph]; decide)) HRr.out.gen.1 HRr.out.gen.2)
    clear hi hS hph Hr2
    generalize voteR r r.pend = VS at *
    go_wp2_with fail
    refine HVo.out.mono ?_
    rintro e yc ⟨rfl, hb⟩
    replace HB7 := Lib.hid (below_next HB7.out hb)
    replace HG7 := Lib.hid (HG7.out.below hb)
    replace HQ7 := Lib.hid (HQ7.out.below hb)
    replace HT7 := Lib.hid (HT7.out.below hb)
    replace HV7 := Lib.hid (HV7.out.below hb)
    clear hb HVo
    have HRB := Lib.hid (replicaBegun_any _ HT7.out)
    go_wp2_with fail
    refine HRB.out.mono ?_
    rintro e x8 ⟨rfl, hb8⟩
    replace HB7 := Lib.hid (below_next HB7.out hb8)
    replace HG7 := Lib.hid (HG7.out.below hb8)
    replace HT7 := Lib.hid (HT7.out.below hb8)
    replace HV7 := Lib.hid (HV7.out.below hb8)
    clear hb8
    obtain ⟨sa0, sc0, ra0, rc0, oa0, oc0, ua0, uc0, hbk0, hrd0⟩ := HG7.out.2.2.2.2.1
    have y0 := block_cell (j := 0) hbk0 rfl
    have y1 := block_cell (j := 1) hbk0 rfl
    have y2 := block_cell (j := 2) hbk0 rfl
    have y3 := block_cell (j := 3) hbk0 rfl
    have y4 := block_cell (j := 4) hbk0 rfl
    have y5 := block_cell (j := 5) hbk0 rfl
    have y6 := block_cell (j := 6) hbk0 rfl
    have HC := Lib.hid (repCheck_any r _ _ _ _ _ _ hrd0)
    simp only [repV] at HC
    rw [HCc.out] at HC
    clear hbk0 hrd0
    go_wp2_with fail
    refine HC.out.mono ?_
    rintro e x9 ⟨rfl, hb8⟩
    clear y0 y1 y2 y3 y4 y5 y6
    replace HB7 := Lib.hid (below_next HB7.out hb8)
    replace HG7 := Lib.hid (HG7.out.below hb8)
    replace HT7 := Lib.hid (HT7.out.below hb8)
    replace HV7 := Lib.hid (HV7.out.below hb8)
    clear hb8 HC
    obtain ⟨sa0, sc0, ra0, rc0, oa0, oc0, ua0, uc0, hbk0, hrd0⟩ := HG7.out.2.2.2.1
    have y0 := block_cell (j := 0) hbk0 rfl
    have y1 := block_cell (j := 1) hbk0 rfl
    have y2 := block_cell (j := 2) hbk0 rfl
    have y3 := block_cell (j := 3) hbk0 rfl
    have y4 := block_cell (j := 4) hbk0 rfl
    have y5 := block_cell (j := 5) hbk0 rfl
    have y6 := block_cell (j := 6) hbk0 rfl
    obtain ⟨sa1, sc1, ra1, rc1, oa1, oc1, ua1, uc1, hbk1, hrd1⟩ := HV7.out.1
    have z0 := block_cell (j := 0) hbk1 rfl
    have z1 := block_cell (j := 1) hbk1 rfl
    have z2 := block_cell (j := 2) hbk1 rfl
    have z3 := block_cell (j := 3) hbk1 rfl
    have z4 := block_cell (j := 4) hbk1 rfl
    have z5 := block_cell (j := 5) hbk1 rfl
    have z6 := block_cell (j := 6) hbk1 rfl
    have HC := Lib.hid (replicaIs_any _ A (prepE r p) (prepE r p) _ _ _ _ _ _ _ _ _ _ _ hrd0 hrd1)
    rw [Heq0.out] at HC
    simp only [repV] at HC
    clear hbk0 hrd0 hbk1 hrd1
    go_wp2_with fail
    refine HC.out.mono ?_
    rintro e x10 ⟨rfl, hb8⟩
    clear y0 y1 y2 y3 y4 y5 y6 z0 z1 z2 z3 z4 z5 z6
    replace HB7 := Lib.hid (below_next HB7.out hb8)
    replace HG7 := Lib.hid (HG7.out.below hb8)
    replace HT7 := Lib.hid (HT7.out.below hb8)
    replace HV7 := Lib.hid (HV7.out.below hb8)
    clear hb8 HC
    obtain ⟨sa0, sc0, ra0, rc0, oa0, oc0, ua0, uc0, hbk0, hrd0⟩ := HG7.out.2.2.1
    have y0 := block_cell (j := 0) hbk0 rfl
    have y1 := block_cell (j := 1) hbk0 rfl
    have y2 := block_cell (j := 2) hbk0 rfl
    have y3 := block_cell (j := 3) hbk0 rfl
    have y4 := block_cell (j := 4) hbk0 rfl
    have y5 := block_cell (j := 5) hbk0 rfl
    have y6 := block_cell (j := 6) hbk0 rfl
    obtain ⟨sa1, sc1, ra1, rc1, oa1, oc1, ua1, uc1, hbk1, hrd1⟩ := HV7.out.2.1
    have z0 := block_cell (j := 0) hbk1 rfl
    have z1 := block_cell (j := 1) hbk1 rfl
    have z2 := block_cell (j := 2) hbk1 rfl
    have z3 := block_cell (j := 3) hbk1 rfl
    have z4 := block_cell (j := 4) hbk1 rfl
    have z5 := block_cell (j := 5) hbk1 rfl
    have z6 := block_cell (j := 6) hbk1 rfl
    have HC := Lib.hid (replicaIs_any _ (votedR r) 0 0 _ _ _ _ _ _ _ _ _ _ _ hrd0 hrd1)
    rw [Heq1.out] at HC
    simp only [repV] at HC
    clear hbk0 hrd0 hbk1 hrd1
    go_wp2_with fail
    refine HC.out.mono ?_
    rintro e x11 ⟨rfl, hb8⟩
    clear y0 y1 y2 y3 y4 y5 y6 z0 z1 z2 z3 z4 z5 z6
    replace HB7 := Lib.hid (below_next HB7.out hb8)
    replace HG7 := Lib.hid (HG7.out.below hb8)
    replace HT7 := Lib.hid (HT7.out.below hb8)
    replace HV7 := Lib.hid (HV7.out.below hb8)
    clear hb8 HC
    obtain ⟨sa0, sc0, ra0, rc0, oa0, oc0, ua0, uc0, hbk0, hrd0⟩ := HG7.out.2.1
    have y0 := block_cell (j := 0) hbk0 rfl
    have y1 := block_cell (j := 1) hbk0 rfl
    have y2 := block_cell (j := 2) hbk0 rfl
    have y3 := block_cell (j := 3) hbk0 rfl
    have y4 := block_cell (j := 4) hbk0 rfl
    have y5 := block_cell (j := 5) hbk0 rfl
    have y6 := block_cell (j := 6) hbk0 rfl
    obtain ⟨sa1, sc1, ra1, rc1, oa1, oc1, ua1, uc1, hbk1, hrd1⟩ := HV7.out.2.2.1
    have z0 := block_cell (j := 0) hbk1 rfl
    have z1 := block_cell (j := 1) hbk1 rfl
    have z2 := block_cell (j := 2) hbk1 rfl
    have z3 := block_cell (j := 3) hbk1 rfl
    have z4 := block_cell (j := 4) hbk1 rfl
    have z5 := block_cell (j := 5) hbk1 rfl
    have z6 := block_cell (j := 6) hbk1 rfl
    have HC := Lib.hid (replicaIs_any _ C (finE r cm) (finE r cm) _ _ _ _ _ _ _ _ _ _ _ hrd0 hrd1)
    rw [Heq2.out] at HC
    simp only [repV] at HC
    clear hbk0 hrd0 hbk1 hrd1
    go_wp2_with fail
    refine HC.out.mono ?_
    rintro e x12 ⟨rfl, hb8⟩
    clear y0 y1 y2 y3 y4 y5 y6 z0 z1 z2 z3 z4 z5 z6
    replace HB7 := Lib.hid (below_next HB7.out hb8)
    replace HG7 := Lib.hid (HG7.out.below hb8)
    replace HT7 := Lib.hid (HT7.out.below hb8)
    replace HV7 := Lib.hid (HV7.out.below hb8)
    clear hb8 HC
    obtain ⟨sa0, sc0, ra0, rc0, oa0, oc0, ua0, uc0, hbk0, hrd0⟩ := HG7.out.1
    have y0 := block_cell (j := 0) hbk0 rfl
    have y1 := block_cell (j := 1) hbk0 rfl
    have y2 := block_cell (j := 2) hbk0 rfl
    have y3 := block_cell (j := 3) hbk0 rfl
    have y4 := block_cell (j := 4) hbk0 rfl
    have y5 := block_cell (j := 5) hbk0 rfl
    have y6 := block_cell (j := 6) hbk0 rfl
    obtain ⟨sa1, sc1, ra1, rc1, oa1, oc1, ua1, uc1, hbk1, hrd1⟩ := HV7.out.2.2.2.1
    have z0 := block_cell (j := 0) hbk1 rfl
    have z1 := block_cell (j := 1) hbk1 rfl
    have z2 := block_cell (j := 2) hbk1 rfl
    have z3 := block_cell (j := 3) hbk1 rfl
    have z4 := block_cell (j := 4) hbk1 rfl
    have z5 := block_cell (j := 5) hbk1 rfl
    have z6 := block_cell (j := 6) hbk1 rfl
    have HC := Lib.hid (replicaIs_any _ (idleR r) 0 0 _ _ _ _ _ _ _ _ _ _ _ hrd0 hrd1)
    rw [Heq3.out] at HC
    simp only [repV] at HC
    clear hbk0 hrd0 hbk1 hrd1
    go_wp2_with fail
    refine HC.out.mono ?_
    rintro e x13 ⟨rfl, hb8⟩
    clear y0 y1 y2 y3 y4 y5 y6 z0 z1 z2 z3 z4 z5 z6
    replace HB7 := Lib.hid (below_next HB7.out hb8)
    replace HG7 := Lib.hid (HG7.out.below hb8)
    replace HT7 := Lib.hid (HT7.out.below hb8)
    replace HV7 := Lib.hid (HV7.out.below hb8)
    clear hb8 HC
    have HE := HB7
    go_wp2_with fail
    go_ret
    exact ⟨rfl, HE.out⟩
end Go.Proofs.YtdhoodloklgokaaGreatDoor
