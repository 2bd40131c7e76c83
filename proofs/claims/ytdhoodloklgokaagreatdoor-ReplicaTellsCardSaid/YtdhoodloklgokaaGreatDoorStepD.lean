
/- StepD: StepD, StepE. -/
import Derived.Test.YtdhoodloklgokaaGreatDoorStepA
/- StepD: walks of the reference's IdleOf, PrepareOf, FinishOf. -/
namespace Go.Proofs.YtdhoodloklgokaaGreatDoor
open Go.RowKit
set_option linter.unusedVariables false
set_option linter.unusedSimpArgs false

/-- where what comes back lies is told -/
def RetRepP (P : Nat → Prop) (w w' : World) (e : Ending) (r : Rep) (c : Int) : Prop := ∃ sv rv ov uv, e = .returned (.tuple #[repV r sv rv ov uv, .int .i64 c]) ∧ RepIs P w' r sv rv ov uv ∧ Below w.heap.size w w'

set_option maxRecDepth 100000 in
set_option maxHeartbeats 4000000 in
theorem idleOf_any (r : Rep) (sv rv ov uv : Value) (S : Nat → Prop) (w : World) (h : RepIs S w r sv rv ov uv) :
    Calls Tryz.prog 55 #[repV r sv rv ov uv] w fun e w' => ∃ svt rvt, e = .returned (repV (idleR r) svt rvt (.slice none 0 0) (.slice none 0 0)) ∧ RepIs S w' (idleR r) svt rvt (.slice none 0 0) (.slice none 0 0) ∧ Below w.heap.size w w' := by
  have H := Lib.hid h.lt
  obtain ⟨sa, sc, rfl⟩ := h.store.vshape
  obtain ⟨⟨ra, rc⟩, rfl⟩ := h.refs.shape
  obtain ⟨oa, oc, rfl⟩ := h.objs.vshape
  obtain ⟨⟨ua, uc⟩, rfl⟩ := h.upds.shape
  clear h
  simp only [repV]
  obtain ⟨Q, hQ, hQ1, HB0⟩ := cls_allocs w [.cells #[.slice sa r.store.length sc, .slice ra r.refs.length rc, .int .i64 r.gen, .int .i64 r.phase, .slice oa r.pend.objects.length oc, .slice ua r.pend.updates.length uc, .bool r.pend.force] 28, .cells #[.slice sa r.store.length sc, .slice ra r.refs.length rc, .int .i64 r.gen, .int .i64 0, .slice none 0 0, .slice none 0 0, .bool false] 28]
  simp only [List.foldl] at hQ1
  have hb2 := hQ.below _ hQ1
  have h1 : ((w.alloc (.cells #[.slice sa r.store.length sc, .slice ra r.refs.length rc, .int .i64 r.gen, .int .i64 r.phase, .slice oa r.pend.objects.length oc, .slice ua r.pend.updates.length uc, .bool r.pend.force] 28)).alloc (.cells #[.slice none 0 0, .slice none 0 0, .int .i64 0, .int .i64 0, .slice none 0 0, .slice none 0 0, .bool false] 28)).heap[w.heap.size]? = some (.cells #[.slice sa r.store.length sc, .slice ra r.refs.length rc, .int .i64 r.gen, .int .i64 r.phase, .slice oa r.pend.objects.length oc, .slice ua r.pend.updates.length uc, .bool r.pend.force] 28 (0, 0)) := by rw [Below.heap_alloc _ _ _ (by simp)]; exact heap_alloc_new w _
  have h0 := heap_alloc_new w (.cells #[.slice sa r.store.length sc, .slice ra r.refs.length rc, .int .i64 r.gen, .int .i64 r.phase, .slice oa r.pend.objects.length oc, .slice ua r.pend.updates.length uc, .bool r.pend.force] 28)
  have h2 := HB0 _ hQ1 1 _ rfl
  go_enter Tryz.func55, Tryz.ntmps55
  go_wp2_with fail
  have Hb2 := Lib.hid hb2
  generalize (w.alloc (.cells #[.slice sa r.store.length sc, .slice ra r.refs.length rc, .int .i64 r.gen, .int .i64 r.phase, .slice oa r.pend.objects.length oc, .slice ua r.pend.updates.length uc, .bool r.pend.force] 28)).alloc (.cells #[.slice sa r.store.length sc, .slice ra r.refs.length rc, .int .i64 r.gen, .int .i64 0, .slice none 0 0, .slice none 0 0, .bool false] 28) = z at *
  have k0 := block_cell (j := 0) h2 rfl
  have k1 := block_cell (j := 1) h2 rfl
  have k2 := block_cell (j := 2) h2 rfl
  have k3 := block_cell (j := 3) h2 rfl
  have k4 := block_cell (j := 4) h2 rfl
  have k5 := block_cell (j := 5) h2 rfl
  have k6 := block_cell (j := 6) h2 rfl
  refine bodyPost_ret (v := .agg #[.slice sa r.store.length sc, .slice ra r.refs.length rc, .int .i64 r.gen, .int .i64 0, .slice none 0 0, .slice none 0 0, .bool false]) (by simp [results, Tryz.results55, go_sem]; simp [k0, k1, k2, k3, k4, k5, k6] <;> rfl) rfl ?_
  have hr2 := H.out.below Hb2.out
  exact ⟨_, _, rfl, ⟨hr2.store.weaken fun _ h => h.1, hr2.refs.weaken fun _ h => h.1, StoreV.nil _ _ _ _ (by omega), MvsV.nil _ _ _ _ (by omega), hr2.gen, by first | (show I64 0; unfold I64; decide)⟩, Hb2.out⟩

set_option maxRecDepth 100000 in
set_option maxHeartbeats 4000000 in
theorem prepareOf_any (r : Rep) (p : Psh) (sv rv ov2 uv2 ov uv : Value) (S S1 : Nat → Prop) (w : World) (h : RepIs S w r sv rv ov2 uv2) (ho : StoreV S1 w ov p.objects) (hu : MvsV S1 w uv p.updates) (hc : repCheck r = 0) :
    Calls Tryz.prog 53 #[repV r sv rv ov2 uv2, pshV p ov uv] w fun e w' => RetRepP (fun b => S b ∨ S1 b) w w' e (prepR r p) (prepE r p) := by
  have H := Lib.hid h.lt
  have HO := Lib.hid ho.lt
  have HM := Lib.hid hu.lt
  obtain ⟨sa, sc, rfl⟩ := h.store.vshape
  obtain ⟨⟨ra, rc⟩, rfl⟩ := h.refs.shape
  obtain ⟨oa, oc, rfl⟩ := h.objs.vshape
  obtain ⟨⟨ua, uc⟩, rfl⟩ := h.upds.shape
  obtain ⟨oap, ocp, rfl⟩ := ho.vshape
  obtain ⟨⟨uap, ucp⟩, rfl⟩ := hu.shape
  clear h ho hu
  simp only [repV, pshV]
  obtain ⟨Q, hQ, hQ1, HB0⟩ := cls_allocs w [.cells #[.slice sa r.store.length sc, .slice ra r.refs.length rc, .int .i64 r.gen, .int .i64 r.phase, .slice oa r.pend.objects.length oc, .slice ua r.pend.updates.length uc, .bool r.pend.force] 28, .cells #[.slice oap p.objects.length ocp, .slice uap p.updates.length ucp, .bool p.force] 26, .cells #[.slice none 0 0, .slice none 0 0, .int .i64 0, .int .i64 0, .slice none 0 0, .slice none 0 0, .bool false] 28]
  simp only [List.foldl] at hQ1
  have hQb := hQ.below
  have hQn := hQ.next
  have HZ := Lib.hid (fun x (hx : In Q x) => show x.heap[w.heap.size + 2]? = some (.cells #[.slice none 0 0, .slice none 0 0, .int .i64 0, .int .i64 0, .slice none 0 0, .slice none 0 0, .bool false] 28 (0, 0)) from HB0 x hx 2 _ rfl)
  have HA := Lib.hid (fun x (hx : In Q x) => show x.heap[w.heap.size]? = some (.cells #[.slice sa r.store.length sc, .slice ra r.refs.length rc, .int .i64 r.gen, .int .i64 r.phase, .slice oa r.pend.objects.length oc, .slice ua r.pend.updates.length uc, .bool r.pend.force] 28 (0, 0)) from HB0 x hx 0 _ rfl)
  have HP := Lib.hid (fun x (hx : In Q x) => show x.heap[w.heap.size + 1]? = some (.cells #[.slice oap p.objects.length ocp, .slice uap p.updates.length ucp, .bool p.force] 26 (0, 0)) from HB0 x hx 1 _ rfl)
  have y3 := block_cell (j := 3) (HA.out _ hQ1) rfl
  have hz := HZ.out _ hQ1
  have HCk := Lib.hid (checkPush_any p _ _ _ _ _ (HO.out.below (hQb _ hQ1)) (HM.out.below (hQb _ hQ1)))
  clear HB0
  by_cases hp : r.phase = 0
  case neg =>
    have HE := Lib.hid (show prepE r p = 4 by unfold prepE; rw [inE_bad hc hp]; rfl)
    have HR := Lib.hid (show prepR r p = rep0 by unfold prepR; rw [HE.out]; rfl)
    have q : (r.phase != 0) = true := by simpa using hp
    have HB := Lib.hid (hQb _ hQ1)
    clear hp hc HCk
    go_enter Tryz.func53, Tryz.ntmps53
    go_wp2_with fail
    generalize ((((w.alloc (.cells #[.slice sa r.store.length sc, .slice ra r.refs.length rc, .int .i64 r.gen, .int .i64 r.phase, .slice oa r.pend.objects.length oc, .slice ua r.pend.updates.length uc, .bool r.pend.force] 28)).alloc (.cells #[.slice oap p.objects.length ocp, .slice uap p.updates.length ucp, .bool p.force] 26)).alloc (.cells #[.slice none 0 0, .slice none 0 0, .int .i64 0, .int .i64 0, .slice none 0 0, .slice none 0 0, .bool false] 28))) = z at *
    have k0 := block_cell (j := 0) hz rfl
    have k1 := block_cell (j := 1) hz rfl
    have k2 := block_cell (j := 2) hz rfl
    have k3 := block_cell (j := 3) hz rfl
    have k4 := block_cell (j := 4) hz rfl
    have k5 := block_cell (j := 5) hz rfl
    have k6 := block_cell (j := 6) hz rfl
    refine bodyPost_ret (v := .tuple #[.agg #[.slice none 0 0, .slice none 0 0, .int .i64 0, .int .i64 0, .slice none 0 0, .slice none 0 0, .bool false], .int .i64 4]) (by simp [results, Tryz.results53, go_sem]; simp [k0, k1, k2, k3, k4, k5, k6] <;> rfl) rfl ?_
    exact ⟨.slice none 0 0, .slice none 0 0, .slice none 0 0, .slice none 0 0, by rw [HR.out, HE.out]; rfl, by rw [HR.out]; exact rep0_is _ _, HB.out⟩
  have q : (r.phase != 0) = false := by simpa using hp
  have HE0 := Lib.hid (show prepE r p = checkPsh p by unfold prepE; rw [inE_ok hc hp]; rfl)
  by_cases hk : checkPsh p = 0
  case neg =>
    have HR := Lib.hid (show prepR r p = rep0 by unfold prepR; rw [HE0.out, if_neg hk])
    have q2 : (checkPsh p != 0) = true := by simpa using hk
    have p0 := block_cell (j := 0) (HP.out _ hQ1) rfl
    have p1 := block_cell (j := 1) (HP.out _ hQ1) rfl
    have p2 := block_cell (j := 2) (HP.out _ hQ1) rfl
    clear hk hp hc hz
    generalize checkPsh p = c at *
    go_enter Tryz.func53, Tryz.ntmps53
    go_wp2_with fail
    refine HCk.out.mono ?_
    rintro e x1 ⟨rfl, hb1⟩
    have hQ2 := hQn _ _ hQ1 hb1
    have HB := Lib.hid (hQb _ hQ2)
    have hz := HZ.out _ hQ2
    clear hb1 HCk p0 p1 p2 y3
    have HW := Lib.hid (set7_is (v0 := .slice none 0 0) (v1 := .slice none 0 0) (v2 := .int .i64 0) (v3 := .int .i64 0) (v4 := .slice none 0 0) (v5 := .slice none 0 0) (v6 := .bool false) hz)
    have HU := Lib.hid (set7_upd (w.heap.size + 2) (.slice none 0 0) (.slice none 0 0) (.int .i64 0) (.int .i64 0) (.slice none 0 0) (.slice none 0 0) (.bool false) x1)
    have g0 := block_cell (j := 0) hz rfl
    have g1 := block_cell (j := 1) hz rfl
    have g2 := block_cell (j := 2) hz rfl
    have g3 := block_cell (j := 3) hz rfl
    have g4 := block_cell (j := 4) hz rfl
    have g5 := block_cell (j := 5) hz rfl
    have g6 := block_cell (j := 6) hz rfl
    have f0 := block_free (j := 0) hz
    have f1 := block_free (j := 1) hz
    have f2 := block_free (j := 2) hz
    have f3 := block_free (j := 3) hz
    have f4 := block_free (j := 4) hz
    have f5 := block_free (j := 5) hz
    have f6 := block_free (j := 6) hz
    clear hz
    go_wp2_with fail
    change bodyPost _ _ _ _ _ (set7 (w.heap.size + 2) (.slice none 0 0) (.slice none 0 0) (.int .i64 0) (.int .i64 0) (.slice none 0 0) (.slice none 0 0) (.bool false) _)
    generalize set7 (w.heap.size + 2) (.slice none 0 0) (.slice none 0 0) (.int .i64 0) (.int .i64 0) (.slice none 0 0) (.slice none 0 0) (.bool false) x1 = z at *
    have k0 := block_cell (j := 0) HW.out rfl
    have k1 := block_cell (j := 1) HW.out rfl
    have k2 := block_cell (j := 2) HW.out rfl
    have k3 := block_cell (j := 3) HW.out rfl
    have k4 := block_cell (j := 4) HW.out rfl
    have k5 := block_cell (j := 5) HW.out rfl
    have k6 := block_cell (j := 6) HW.out rfl
    refine bodyPost_ret (v := .tuple #[.agg #[.slice none 0 0, .slice none 0 0, .int .i64 0, .int .i64 0, .slice none 0 0, .slice none 0 0, .bool false], .int .i64 c]) (by simp [results, Tryz.results53, go_sem]; simp [k0, k1, k2, k3, k4, k5, k6] <;> rfl) rfl ?_
    exact ⟨.slice none 0 0, .slice none 0 0, .slice none 0 0, .slice none 0 0, by rw [HR.out, HE0.out]; rfl, by rw [HR.out]; exact rep0_is _ _, HB.out.trans (HU.out.below (B := w.heap.size) HB.out.size (fun b hb => by omega))⟩
  rw [hk] at HCk HE0
  have HR := Lib.hid (show prepR r p = heldR r p by unfold prepR; rw [HE0.out]; rfl)
  have p0 := block_cell (j := 0) (HP.out _ hQ1) rfl
  have p1 := block_cell (j := 1) (HP.out _ hQ1) rfl
  have p2 := block_cell (j := 2) (HP.out _ hQ1) rfl
  clear hk hp hc hz
  go_enter Tryz.func53, Tryz.ntmps53
  go_wp2_with fail
  refine HCk.out.mono ?_
  rintro e x1 ⟨rfl, hb1⟩
  have hQ2 := hQn _ _ hQ1 hb1
  clear hb1 HCk p0 p1 p2 y3
  go_wp2_with fail
  refine wp_region_held (S := (fun z : World => z.heap[w.heap.size + 1]? = some (.cells #[.slice oap p.objects.length ocp, .slice uap p.updates.length ucp, .bool p.force] 26 (0, 0)))) (by kernel_rfl) ?_
  change wpAnyH _ _ _ _ _ _ _ _ (World.drew _)
  have hQ3 := hQ.drew _ hQ2
  have hC0 := HP.out _ hQ3
  generalize x1.drew = x0 at *
  have hA := HA.out _ hQ3
  refine wpAnyH_take (i := 0) (v := .agg #[.slice oap p.objects.length ocp, .slice uap p.updates.length ucp, .bool p.force]) rfl (by kernel_rfl) (by kernel_rfl) (by kernel_rfl) (fun _ _ _ h => h) (Or.inl ⟨by rfl, fun w hSw => ?_⟩) hC0 ?_
  · have z0 := block_cell (j := 0) hSw rfl; have z1 := block_cell (j := 1) hSw rfl; have z2 := block_cell (j := 2) hSw rfl; go_simp
  simp only [Act.put, List.getElem_toArray, List.getElem_cons_zero, List.getElem_cons_succ, List.setIfInBounds_toArray, List.set_cons_zero, List.set_cons_succ]
  refine wpAnyH_take (i := 1) (v := .pointer (some ⟨w.heap.size, 3, none⟩)) rfl (by kernel_rfl) (by kernel_rfl) (by kernel_rfl) (fun _ _ _ h => h) (Or.inl ⟨by rfl, fun w hSw => ?_⟩) hC0 ?_
  · go_simp
  simp only [Act.put, List.getElem_toArray, List.getElem_cons_zero, List.getElem_cons_succ, List.setIfInBounds_toArray, List.set_cons_zero, List.set_cons_succ]
  have hU1 : Upd (fun b => b = w.heap.size) x0 (x0.setCell ⟨w.heap.size, 3, none⟩ (.int .i64 1)) := (Upd.refl (fun b => b = w.heap.size) x0).setCell (p := ⟨w.heap.size, 3, none⟩) (fun _ => rfl) _
  have hA1 : (x0.setCell ⟨w.heap.size, 3, none⟩ (.int .i64 1)).heap[w.heap.size]? = some (.cells #[.slice sa r.store.length sc, .slice ra r.refs.length rc, .int .i64 r.gen, .int .i64 1, .slice oa r.pend.objects.length oc, .slice ua r.pend.updates.length uc, .bool r.pend.force] 28 (0, 0)) := by have := block_setCell (j := 3) hA (.int .i64 1); simpa using this
  have HU2 := Lib.hid (setQ_upd w.heap.size (.int .i64 1) (.slice oap p.objects.length ocp) (.slice uap p.updates.length ucp) (.bool p.force) x0)
  have HA2 := Lib.hid (setQ_is (v3 := .int .i64 1) (v4 := .slice oap p.objects.length ocp) (v5 := .slice uap p.updates.length ucp) (v6 := .bool p.force) hA)
  have hC1 := hU1.blk hC0 (by omega)
  have HC2 := Lib.hid (HU2.out.blk hC0 (by omega))
  have g3 := block_cell (j := 3) hA rfl
  have f3 := block_free (j := 3) hA
  refine wpAnyH_all (rs := [2]) (by kernel_rfl) (by simp) (fun j hj => ?_)
  obtain rfl : j = 2 := by simpa using hj
  refine Or.inl ?_
  go_wp2_with fail
  first | refine ⟨hC1, ?_⟩ | skip
  refine wpAnyH_take (i := 3) (v := .pointer (some ⟨w.heap.size, 4, none⟩)) rfl (by kernel_rfl) (by kernel_rfl) (by kernel_rfl) (fun _ _ _ h => h) (Or.inl ⟨by rfl, fun w hSw => ?_⟩) hC1 ?_
  · go_simp
  simp only [Act.put, List.getElem_toArray, List.getElem_cons_zero, List.getElem_cons_succ, List.setIfInBounds_toArray, List.set_cons_zero, List.set_cons_succ]
  have g4 := block_cell (j := 4) hA1 rfl
  have f4 := block_free (j := 4) hA1
  have g5 := block_cell (j := 5) hA1 rfl
  have f5 := block_free (j := 5) hA1
  have g6 := block_cell (j := 6) hA1 rfl
  have f6 := block_free (j := 6) hA1
  refine wpAnyH_all (rs := [4]) (by kernel_rfl) (by simp) (fun j hj => ?_)
  obtain rfl : j = 4 := by simpa using hj
  refine Or.inl ?_
  go_wp2_with fail
  first | refine ⟨HC2.out, ?_⟩ | skip
  first | refine wpAnyH_done (by kernel_rfl) ?_ _ | refine ⟨by kernel_rfl, ?_⟩
  have HB5 := Lib.hid ((hQb _ hQ3).trans (HU2.out.below (B := w.heap.size) (hQb _ hQ3).size (fun b hb => by omega)))
  have hz := HU2.out.blk (HZ.out _ hQ3) (by omega)
  have Hr5 := Lib.hid (RepIs.upd (H.out.below (hQb _ hQ3)) HU2.out (fun b hb e => by have := hb.2; omega))
  have Ho5 := Lib.hid ((HO.out.below (hQb _ hQ3)).upd' HU2.out (fun b hb e => by have := hb.2; omega))
  have Hu5 := Lib.hid ((HM.out.below (hQb _ hQ3)).upd HU2.out (fun b hb e => by have := hb.2; omega))
  have hA5 := HA2.out
  clear HU2 HC2 HA2 hU1 hA1 hA hC1 g3 f3 g4 f4 g5 f5 g6 f6 hQ3 hQ2 hQ1 hC0
  first | change Exit.then _ _ _ _ (setQ w.heap.size (.int .i64 1) (.slice oap p.objects.length ocp) (.slice uap p.updates.length ucp) (.bool p.force) x0) | change bodyPost _ _ _ _ _ (setQ w.heap.size (.int .i64 1) (.slice oap p.objects.length ocp) (.slice uap p.updates.length ucp) (.bool p.force) x0) | skip
  generalize (setQ w.heap.size (.int .i64 1) (.slice oap p.objects.length ocp) (.slice uap p.updates.length ucp) (.bool p.force) x0) = x5 at *
  have a0 := block_cell (j := 0) hA5 rfl
  have a1 := block_cell (j := 1) hA5 rfl
  have a2 := block_cell (j := 2) hA5 rfl
  have a3 := block_cell (j := 3) hA5 rfl
  have a4 := block_cell (j := 4) hA5 rfl
  have a5 := block_cell (j := 5) hA5 rfl
  have a6 := block_cell (j := 6) hA5 rfl
  have HW := Lib.hid (set7_is (v0 := .slice sa r.store.length sc) (v1 := .slice ra r.refs.length rc) (v2 := .int .i64 r.gen) (v3 := .int .i64 1) (v4 := .slice oap p.objects.length ocp) (v5 := .slice uap p.updates.length ucp) (v6 := .bool p.force) hz)
  have HU := Lib.hid (set7_upd (w.heap.size + 2) (.slice sa r.store.length sc) (.slice ra r.refs.length rc) (.int .i64 r.gen) (.int .i64 1) (.slice oap p.objects.length ocp) (.slice uap p.updates.length ucp) (.bool p.force) x5)
  have g0 := block_cell (j := 0) hz rfl
  have g1 := block_cell (j := 1) hz rfl
  have g2 := block_cell (j := 2) hz rfl
  have g3 := block_cell (j := 3) hz rfl
  have g4 := block_cell (j := 4) hz rfl
  have g5 := block_cell (j := 5) hz rfl
  have g6 := block_cell (j := 6) hz rfl
  have f0 := block_free (j := 0) hz
  have f1 := block_free (j := 1) hz
  have f2 := block_free (j := 2) hz
  have f3 := block_free (j := 3) hz
  have f4 := block_free (j := 4) hz
  have f5 := block_free (j := 5) hz
  have f6 := block_free (j := 6) hz
  clear hz hA5
  go_wp2_with fail
  change bodyPost _ _ _ _ _ (set7 (w.heap.size + 2) (.slice sa r.store.length sc) (.slice ra r.refs.length rc) (.int .i64 r.gen) (.int .i64 1) (.slice oap p.objects.length ocp) (.slice uap p.updates.length ucp) (.bool p.force) x5)
  generalize set7 (w.heap.size + 2) (.slice sa r.store.length sc) (.slice ra r.refs.length rc) (.int .i64 r.gen) (.int .i64 1) (.slice oap p.objects.length ocp) (.slice uap p.updates.length ucp) (.bool p.force) x5 = z at *
  have k0 := block_cell (j := 0) HW.out rfl
  have k1 := block_cell (j := 1) HW.out rfl
  have k2 := block_cell (j := 2) HW.out rfl
  have k3 := block_cell (j := 3) HW.out rfl
  have k4 := block_cell (j := 4) HW.out rfl
  have k5 := block_cell (j := 5) HW.out rfl
  have k6 := block_cell (j := 6) HW.out rfl
  refine bodyPost_ret (v := .tuple #[.agg #[.slice sa r.store.length sc, .slice ra r.refs.length rc, .int .i64 r.gen, .int .i64 1, .slice oap p.objects.length ocp, .slice uap p.updates.length ucp, .bool p.force], .int .i64 0]) (by simp [results, Tryz.results53, go_sem]; simp [k0, k1, k2, k3, k4, k5, k6] <;> rfl) rfl ?_
  have hr9 := RepIs.upd Hr5.out HU.out (fun b hb e => by have := hb.2; omega)
  exact ⟨_, _, _, _, by rw [HR.out, HE0.out]; rfl, by rw [HR.out]; exact ⟨hr9.store.weaken fun _ h => .inl h.1, hr9.refs.weaken fun _ h => .inl h.1, (Ho5.out.upd' HU.out (fun b hb e => by have := hb.2; omega)).weaken fun _ h => .inr h.1, (Hu5.out.upd HU.out (fun b hb e => by have := hb.2; omega)).weaken fun _ h => .inr h.1, hr9.gen, by first | (show I64 0; unfold I64; decide) | (show I64 1; unfold I64; decide) | (show I64 2; unfold I64; decide)⟩, HB5.out.trans (HU.out.below (B := w.heap.size) HB5.out.size (fun b hb => by omega))⟩

end Go.Proofs.YtdhoodloklgokaaGreatDoor

/- StepE: walk of the reference's FinishOf. -/
namespace Go.Proofs.YtdhoodloklgokaaGreatDoor
open Go.RowKit
set_option linter.unusedVariables false
set_option linter.unusedSimpArgs false

set_option maxRecDepth 100000 in
set_option maxHeartbeats 4000000 in
theorem finishOf_any (r : Rep) (c : Bool) (sv rv ov2 uv2 : Value) (S : Nat → Prop) (w : World) (h : RepIs S w r sv rv ov2 uv2) (hc : repCheck r = 0) :
    Calls Tryz.prog 54 #[repV r sv rv ov2 uv2, .bool c] w fun e w' => RetRepP (fun b => S b ∨ w.heap.size ≤ b) w w' e (finR r c) (finE r c) := by
  have H := Lib.hid h.lt
  obtain ⟨sa, sc, rfl⟩ := h.store.vshape
  obtain ⟨⟨ra, rc⟩, rfl⟩ := h.refs.shape
  obtain ⟨oa, oc, rfl⟩ := h.objs.vshape
  obtain ⟨⟨ua, uc⟩, rfl⟩ := h.upds.shape
  clear h
  simp only [repV]
  obtain ⟨Q, hQ, hQ1, HB0⟩ := cls_allocs w [.cells #[.slice sa r.store.length sc, .slice ra r.refs.length rc, .int .i64 r.gen, .int .i64 r.phase, .slice oa r.pend.objects.length oc, .slice ua r.pend.updates.length uc, .bool r.pend.force] 28, .cells #[.slice none 0 0, .slice none 0 0, .int .i64 0, .int .i64 0, .slice none 0 0, .slice none 0 0, .bool false] 28]
  simp only [List.foldl] at hQ1
  have hQb := hQ.below
  have hQn := hQ.next
  have HZ := Lib.hid (fun x (hx : In Q x) => show x.heap[w.heap.size + 1]? = some (.cells #[.slice none 0 0, .slice none 0 0, .int .i64 0, .int .i64 0, .slice none 0 0, .slice none 0 0, .bool false] 28 (0, 0)) from HB0 x hx 1 _ rfl)
  have HA := Lib.hid (fun x (hx : In Q x) => show x.heap[w.heap.size]? = some (.cells #[.slice sa r.store.length sc, .slice ra r.refs.length rc, .int .i64 r.gen, .int .i64 r.phase, .slice oa r.pend.objects.length oc, .slice ua r.pend.updates.length uc, .bool r.pend.force] 28 (0, 0)) from HB0 x hx 0 _ rfl)
  have HIo := Lib.hid (idleOf_any r _ _ _ _ _ _ (H.out.below (hQb _ hQ1)))
  simp only [repV] at HIo
  have Hs2 := Lib.hid (fun x (hx : In Q x) => show w.heap.size + 2 ≤ x.heap.size from lt_of_block (HZ.out x hx))
  have hz := HZ.out _ hQ1
  have y0 := block_cell (j := 0) (HA.out _ hQ1) rfl
  have y1 := block_cell (j := 1) (HA.out _ hQ1) rfl
  have y2 := block_cell (j := 2) (HA.out _ hQ1) rfl
  have y3 := block_cell (j := 3) (HA.out _ hQ1) rfl
  have y4 := block_cell (j := 4) (HA.out _ hQ1) rfl
  have y5 := block_cell (j := 5) (HA.out _ hQ1) rfl
  have y6 := block_cell (j := 6) (HA.out _ hQ1) rfl
  clear HB0
  by_cases hp : r.phase = 2
  case neg =>
    have HE := Lib.hid (show finE r c = 4 by unfold finE; rw [inE_bad hc hp]; rfl)
    have HR := Lib.hid (show finR r c = rep0 by unfold finR; rw [HE.out]; rfl)
    have q : (r.phase != 2) = true := by simpa using hp
    have HB := Lib.hid (hQb _ hQ1)
    clear hp hc HIo
    go_enter Tryz.func54, Tryz.ntmps54
    go_wp2_with fail
    generalize ((w.alloc (.cells #[.slice sa r.store.length sc, .slice ra r.refs.length rc, .int .i64 r.gen, .int .i64 r.phase, .slice oa r.pend.objects.length oc, .slice ua r.pend.updates.length uc, .bool r.pend.force] 28)).alloc (.cells #[.slice none 0 0, .slice none 0 0, .int .i64 0, .int .i64 0, .slice none 0 0, .slice none 0 0, .bool false] 28)) = z at *
    have k0 := block_cell (j := 0) hz rfl
    have k1 := block_cell (j := 1) hz rfl
    have k2 := block_cell (j := 2) hz rfl
    have k3 := block_cell (j := 3) hz rfl
    have k4 := block_cell (j := 4) hz rfl
    have k5 := block_cell (j := 5) hz rfl
    have k6 := block_cell (j := 6) hz rfl
    refine bodyPost_ret (v := .tuple #[.agg #[.slice none 0 0, .slice none 0 0, .int .i64 0, .int .i64 0, .slice none 0 0, .slice none 0 0, .bool false], .int .i64 4]) (by simp [results, Tryz.results54, go_sem]; simp [k0, k1, k2, k3, k4, k5, k6] <;> rfl) rfl ?_
    exact ⟨.slice none 0 0, .slice none 0 0, .slice none 0 0, .slice none 0 0, by rw [HR.out, HE.out]; rfl, by rw [HR.out]; exact rep0_is _ _, HB.out⟩
  have q : (r.phase != 2) = false := by simpa using hp
  have HE0 := Lib.hid (show finE r c = endE r c by unfold finE; rw [inE_ok hc hp]; rfl)
  have HRR := Lib.hid (rep_right.1 hc)
  clear hp
  go_enter Tryz.func54, Tryz.ntmps54
  go_wp2_with fail
  refine HIo.out.mono ?_
  rintro e x1 ⟨svt, rvt, rfl, hr1, hb1⟩
  have hQ2 := hQn _ _ hQ1 hb1
  obtain ⟨sa1, sc1, rfl⟩ := hr1.store.vshape
  obtain ⟨⟨ra1, rc1⟩, rfl⟩ := hr1.refs.shape
  simp only [repV]
  have hQ3 := hQ.alloc _ (.cells #[.slice sa1 (idleR r).store.length sc1, .slice ra1 (idleR r).refs.length rc1, .int .i64 (idleR r).gen, .int .i64 (idleR r).phase, .slice none 0 0, .slice none 0 0, .bool (idleR r).pend.force] 28) hQ2
  have hD := heap_alloc_new x1 (.cells #[.slice sa1 (idleR r).store.length sc1, .slice ra1 (idleR r).refs.length rc1, .int .i64 (idleR r).gen, .int .i64 (idleR r).phase, .slice none 0 0, .slice none 0 0, .bool (idleR r).pend.force] 28)
  have hs := Hs2.out _ hQ2
  have Hr1 := Lib.hid ((RepIs.below hr1 ((Below.refl _ _).alloc (Nat.le_refl _) (.cells #[.slice sa1 (idleR r).store.length sc1, .slice ra1 (idleR r).refs.length rc1, .int .i64 (idleR r).gen, .int .i64 (idleR r).phase, .slice none 0 0, .slice none 0 0, .bool (idleR r).pend.force] 28))))
  have hz3 := HZ.out _ hQ3
  have hA3 := HA.out _ hQ3
  have HT := Lib.hid (tryA_any r r.pend _ _ _ _ _ _ _ _ _ _ _ (H.out.store.below (hQb _ hQ3)) (H.out.refs.below (hQb _ hQ3)) (H.out.objs.below (hQb _ hQ3)) (H.out.upds.below (hQb _ hQ3)) ⟨StoreV.shape3 H.out.objs, MvsV.shape3 H.out.upds⟩)
  clear hr1 hb1 HIo hQ1 hQ2 hz y0 y1 y2 y3 y4 y5 y6
  cases c
  case false =>
    have HE := Lib.hid (show finE r false = 0 from HE0.out)
    have HR := Lib.hid (show finR r false = idleR r by unfold finR; rw [HE.out]; rfl)
    have b0 := block_cell (j := 0) hD rfl
    have b1 := block_cell (j := 1) hD rfl
    have b2 := block_cell (j := 2) hD rfl
    have b3 := block_cell (j := 3) hD rfl
    have b4 := block_cell (j := 4) hD rfl
    have b5 := block_cell (j := 5) hD rfl
    have b6 := block_cell (j := 6) hD rfl
    have hz := hz3
    have HB := Lib.hid (hQb _ hQ3)
    clear hz3 hA3 HT hc hQ3 hD
    have HW := Lib.hid (set7_is (v0 := .slice sa1 (idleR r).store.length sc1) (v1 := .slice ra1 (idleR r).refs.length rc1) (v2 := .int .i64 (idleR r).gen) (v3 := .int .i64 (idleR r).phase) (v4 := .slice none 0 0) (v5 := .slice none 0 0) (v6 := .bool (idleR r).pend.force) hz)
    have HU := Lib.hid (set7_upd (w.heap.size + 1) (.slice sa1 (idleR r).store.length sc1) (.slice ra1 (idleR r).refs.length rc1) (.int .i64 (idleR r).gen) (.int .i64 (idleR r).phase) (.slice none 0 0) (.slice none 0 0) (.bool (idleR r).pend.force) (x1.alloc (.cells #[.slice sa1 (idleR r).store.length sc1, .slice ra1 (idleR r).refs.length rc1, .int .i64 (idleR r).gen, .int .i64 (idleR r).phase, .slice none 0 0, .slice none 0 0, .bool (idleR r).pend.force] 28)))
    have g0 := block_cell (j := 0) hz rfl
    have g1 := block_cell (j := 1) hz rfl
    have g2 := block_cell (j := 2) hz rfl
    have g3 := block_cell (j := 3) hz rfl
    have g4 := block_cell (j := 4) hz rfl
    have g5 := block_cell (j := 5) hz rfl
    have g6 := block_cell (j := 6) hz rfl
    have f0 := block_free (j := 0) hz
    have f1 := block_free (j := 1) hz
    have f2 := block_free (j := 2) hz
    have f3 := block_free (j := 3) hz
    have f4 := block_free (j := 4) hz
    have f5 := block_free (j := 5) hz
    have f6 := block_free (j := 6) hz
    clear hz
    go_wp2_with fail
    change bodyPost _ _ _ _ _ (set7 (w.heap.size + 1) (.slice sa1 (idleR r).store.length sc1) (.slice ra1 (idleR r).refs.length rc1) (.int .i64 (idleR r).gen) (.int .i64 (idleR r).phase) (.slice none 0 0) (.slice none 0 0) (.bool (idleR r).pend.force) _)
    generalize set7 (w.heap.size + 1) (.slice sa1 (idleR r).store.length sc1) (.slice ra1 (idleR r).refs.length rc1) (.int .i64 (idleR r).gen) (.int .i64 (idleR r).phase) (.slice none 0 0) (.slice none 0 0) (.bool (idleR r).pend.force) (x1.alloc (.cells #[.slice sa1 (idleR r).store.length sc1, .slice ra1 (idleR r).refs.length rc1, .int .i64 (idleR r).gen, .int .i64 (idleR r).phase, .slice none 0 0, .slice none 0 0, .bool (idleR r).pend.force] 28)) = z at *
    have k0 := block_cell (j := 0) HW.out rfl
    have k1 := block_cell (j := 1) HW.out rfl
    have k2 := block_cell (j := 2) HW.out rfl
    have k3 := block_cell (j := 3) HW.out rfl
    have k4 := block_cell (j := 4) HW.out rfl
    have k5 := block_cell (j := 5) HW.out rfl
    have k6 := block_cell (j := 6) HW.out rfl
    refine bodyPost_ret (v := .tuple #[.agg #[.slice sa1 (idleR r).store.length sc1, .slice ra1 (idleR r).refs.length rc1, .int .i64 (idleR r).gen, .int .i64 (idleR r).phase, .slice none 0 0, .slice none 0 0, .bool (idleR r).pend.force], .int .i64 0]) (by simp [results, Tryz.results54, go_sem]; simp [k0, k1, k2, k3, k4, k5, k6] <;> rfl) rfl ?_
    exact ⟨.slice sa1 (idleR r).store.length sc1, .slice ra1 (idleR r).refs.length rc1, .slice none 0 0, .slice none 0 0, by rw [HR.out, HE.out]; rfl, by rw [HR.out]; exact (RepIs.upd Hr1.out HU.out (fun b hb e => by have := hb.2; omega)).weaken fun b hb => .inl hb.1, HB.out.trans (HU.out.below (B := w.heap.size) HB.out.size (fun b hb => by omega))⟩
  case true =>
    have y0 := block_cell (j := 0) hA3 rfl
    have y1 := block_cell (j := 1) hA3 rfl
    have y2 := block_cell (j := 2) hA3 rfl
    have y3 := block_cell (j := 3) hA3 rfl
    have y4 := block_cell (j := 4) hA3 rfl
    have y5 := block_cell (j := 5) hA3 rfl
    have y6 := block_cell (j := 6) hA3 rfl
    have hE1 : finE r true = commE r := HE0.out
    have HDx := Lib.hid hD
    clear hD hz3 hA3 hc
    go_wp2_with fail
    refine HT.out.mono ?_
    rintro e x3 ⟨v3, u3, rfl, hv3, hu3, hb3⟩
    obtain ⟨va, vc, rfl⟩ := hv3.vshape
    obtain ⟨⟨ma, mc⟩, rfl⟩ := hu3.shape
    have hQ4 := hQn _ _ hQ3 hb3
    have hD3 := blk_below HDx.out hb3
    have hz := HZ.out _ hQ4
    have hA4 := HA.out _ hQ4
    have hs3 := (hQb _ hQ3).size
    have Hv := Lib.hid (hv3.weaken (S' := fun b => (S b ∧ b < w.heap.size) ∨ x1.heap.size + 1 ≤ b) (fun b hb => hb.elim (fun h => .inl (h.elim id (fun h => h.elim id id))) (fun h => .inr (by simp only [World.size_alloc] at h; omega))))
    have Hu := Lib.hid (hu3.weaken (S' := fun b => (S b ∧ b < w.heap.size) ∨ x1.heap.size + 1 ≤ b) (fun b hb => hb.elim (fun h => .inl (h.elim id (fun h => h.elim id id))) (fun h => .inr (by simp only [World.size_alloc] at h; omega))))
    have HB := Lib.hid (hQb _ hQ4)
    have hDl : x1.heap.size < x3.heap.size := lt_of_block hD3
    clear hv3 hu3 hb3 HT HDx hs3 Hr1 y0 y1 y2 y3 y4 y5 y6 hQ3
    generalize x1.heap.size = D at *
    by_cases ht : tryE r r.pend = 0
    case neg =>
      have HE := Lib.hid (show finE r true = tryE r r.pend by rw [hE1]; unfold commE; rw [if_pos ht])
      have HR := Lib.hid (show finR r true = rep0 by unfold finR; rw [HE.out, if_neg ht])
      have q1 : (tryE r r.pend == 0) = false := by simpa using ht
      have q2 : (tryE r r.pend != 0) = true := by simpa using ht
      clear ht hE1 hA4 hD3
      generalize tryE r r.pend = ec at *
      have HW := Lib.hid (set7_is (v0 := .slice none 0 0) (v1 := .slice none 0 0) (v2 := .int .i64 0) (v3 := .int .i64 0) (v4 := .slice none 0 0) (v5 := .slice none 0 0) (v6 := .bool false) hz)
      have HU := Lib.hid (set7_upd (w.heap.size + 1) (.slice none 0 0) (.slice none 0 0) (.int .i64 0) (.int .i64 0) (.slice none 0 0) (.slice none 0 0) (.bool false) x3)
      have g0 := block_cell (j := 0) hz rfl
      have g1 := block_cell (j := 1) hz rfl
      have g2 := block_cell (j := 2) hz rfl
      have g3 := block_cell (j := 3) hz rfl
      have g4 := block_cell (j := 4) hz rfl
      have g5 := block_cell (j := 5) hz rfl
      have g6 := block_cell (j := 6) hz rfl
      have f0 := block_free (j := 0) hz
      have f1 := block_free (j := 1) hz
      have f2 := block_free (j := 2) hz
      have f3 := block_free (j := 3) hz
      have f4 := block_free (j := 4) hz
      have f5 := block_free (j := 5) hz
      have f6 := block_free (j := 6) hz
      clear hz
      go_wp2_with fail
      change bodyPost _ _ _ _ _ (set7 (w.heap.size + 1) (.slice none 0 0) (.slice none 0 0) (.int .i64 0) (.int .i64 0) (.slice none 0 0) (.slice none 0 0) (.bool false) _)
      generalize set7 (w.heap.size + 1) (.slice none 0 0) (.slice none 0 0) (.int .i64 0) (.int .i64 0) (.slice none 0 0) (.slice none 0 0) (.bool false) x3 = z at *
      have k0 := block_cell (j := 0) HW.out rfl
      have k1 := block_cell (j := 1) HW.out rfl
      have k2 := block_cell (j := 2) HW.out rfl
      have k3 := block_cell (j := 3) HW.out rfl
      have k4 := block_cell (j := 4) HW.out rfl
      have k5 := block_cell (j := 5) HW.out rfl
      have k6 := block_cell (j := 6) HW.out rfl
      refine bodyPost_ret (v := .tuple #[.agg #[.slice none 0 0, .slice none 0 0, .int .i64 0, .int .i64 0, .slice none 0 0, .slice none 0 0, .bool false], .int .i64 ec]) (by simp [results, Tryz.results54, go_sem]; simp [k0, k1, k2, k3, k4, k5, k6] <;> rfl) rfl ?_
      exact ⟨.slice none 0 0, .slice none 0 0, .slice none 0 0, .slice none 0 0, by rw [HR.out, HE.out]; rfl, by rw [HR.out]; exact rep0_is _ _, HB.out.trans (HU.out.below (B := w.heap.size) HB.out.size (fun b hb => by omega))⟩
    rw [ht]
    have g2 := block_cell (j := 2) hA4 rfl
    by_cases hg : r.gen = 999
    case pos =>
      have HE := Lib.hid (show finE r true = 2 by rw [hE1]; unfold commE; rw [if_neg (by simpa using ht), if_pos hg])
      have HR := Lib.hid (show finR r true = rep0 by unfold finR; rw [HE.out]; rfl)
      have q1 : (r.gen == 999) = true := by simpa using hg
      clear ht hE1 hA4 hD3 hg
      have y2 := g2
      clear g2
      have HW := Lib.hid (set7_is (v0 := .slice none 0 0) (v1 := .slice none 0 0) (v2 := .int .i64 0) (v3 := .int .i64 0) (v4 := .slice none 0 0) (v5 := .slice none 0 0) (v6 := .bool false) hz)
      have HU := Lib.hid (set7_upd (w.heap.size + 1) (.slice none 0 0) (.slice none 0 0) (.int .i64 0) (.int .i64 0) (.slice none 0 0) (.slice none 0 0) (.bool false) x3)
      have g0 := block_cell (j := 0) hz rfl
      have g1 := block_cell (j := 1) hz rfl
      have g2 := block_cell (j := 2) hz rfl
      have g3 := block_cell (j := 3) hz rfl
      have g4 := block_cell (j := 4) hz rfl
      have g5 := block_cell (j := 5) hz rfl
      have g6 := block_cell (j := 6) hz rfl
      have f0 := block_free (j := 0) hz
      have f1 := block_free (j := 1) hz
      have f2 := block_free (j := 2) hz
      have f3 := block_free (j := 3) hz
      have f4 := block_free (j := 4) hz
      have f5 := block_free (j := 5) hz
      have f6 := block_free (j := 6) hz
      clear hz
      go_wp2_with fail
      change bodyPost _ _ _ _ _ (set7 (w.heap.size + 1) (.slice none 0 0) (.slice none 0 0) (.int .i64 0) (.int .i64 0) (.slice none 0 0) (.slice none 0 0) (.bool false) _)
      generalize set7 (w.heap.size + 1) (.slice none 0 0) (.slice none 0 0) (.int .i64 0) (.int .i64 0) (.slice none 0 0) (.slice none 0 0) (.bool false) x3 = z at *
      have k0 := block_cell (j := 0) HW.out rfl
      have k1 := block_cell (j := 1) HW.out rfl
      have k2 := block_cell (j := 2) HW.out rfl
      have k3 := block_cell (j := 3) HW.out rfl
      have k4 := block_cell (j := 4) HW.out rfl
      have k5 := block_cell (j := 5) HW.out rfl
      have k6 := block_cell (j := 6) HW.out rfl
      refine bodyPost_ret (v := .tuple #[.agg #[.slice none 0 0, .slice none 0 0, .int .i64 0, .int .i64 0, .slice none 0 0, .slice none 0 0, .bool false], .int .i64 2]) (by simp [results, Tryz.results54, go_sem]; simp [k0, k1, k2, k3, k4, k5, k6] <;> rfl) rfl ?_
      exact ⟨.slice none 0 0, .slice none 0 0, .slice none 0 0, .slice none 0 0, by rw [HR.out, HE.out]; rfl, by rw [HR.out]; exact rep0_is _ _, HB.out.trans (HU.out.below (B := w.heap.size) HB.out.size (fun b hb => by omega))⟩
    have HE := Lib.hid (show finE r true = 0 by rw [hE1]; unfold commE; rw [if_neg (by simpa using ht), if_neg hg])
    have HR := Lib.hid (show finR r true = doneR r r.pend by unfold finR; rw [HE.out]; rfl)
    have q1 : (r.gen == 999) = false := by simpa using hg
    have hwr := wrap_in (n := r.gen + 1) (by have := HRR.out.gen; omega)
    have HI := Lib.hid (show I64 (r.gen + 1) from by have := HRR.out.gen; unfold I64; omega)
    have y2 := g2
    clear g2 ht hE1 hg hz
    go_wp2_with fail
    clear y2
    refine wp_region_held (S := (fun z : World => z.heap[w.heap.size]? = some (.cells #[.slice sa r.store.length sc, .slice ra r.refs.length rc, .int .i64 r.gen, .int .i64 r.phase, .slice oa r.pend.objects.length oc, .slice ua r.pend.updates.length uc, .bool r.pend.force] 28 (0, 0)))) (by kernel_rfl) ?_
    change wpAnyH _ _ _ _ _ _ _ _ (World.drew _)
    have hbd : Below x3.heap.size x3 x3.drew := (Below.refl _ _).drew
    have hC0 := blk_below hA4 hbd
    have hD0 := blk_below hD3 hbd
    have hQ5 := hQn _ _ hQ4 hbd
    have hDl0 : D < x3.drew.heap.size := lt_of_block hD0
    replace Hv := Lib.hid (Hv.out.below hbd)
    replace Hu := Lib.hid (Hu.out.below hbd)
    clear hbd hA4 hD3 hQ4 HB hDl
    generalize x3.drew = x0 at *
    have hU1 : Upd (fun b => b = D) x0 (x0.setCell ⟨D, 0, none⟩ (.slice va (tryL r r.pend).length vc)) := (Upd.refl (fun b => b = D) x0).setCell (p := ⟨D, 0, none⟩) (fun _ => rfl) _
    have hU2 : Upd (fun b => b = D) x0 ((x0.setCell ⟨D, 0, none⟩ (.slice va (tryL r r.pend).length vc)).setCell ⟨D, 1, none⟩ (.slice ma (tryM r r.pend).length mc)) := hU1.setCell (p := ⟨D, 1, none⟩) (fun _ => rfl) _
    have hA1 : (x0.setCell ⟨D, 0, none⟩ (.slice va (tryL r r.pend).length vc)).heap[D]? = some (.cells #[.slice va (tryL r r.pend).length vc, .slice ra1 (idleR r).refs.length rc1, .int .i64 (idleR r).gen, .int .i64 (idleR r).phase, .slice none 0 0, .slice none 0 0, .bool (idleR r).pend.force] 28 (0, 0)) := by have := block_setCell (j := 0) hD0 (.slice va (tryL r r.pend).length vc); simpa using this
    have hA2 : ((x0.setCell ⟨D, 0, none⟩ (.slice va (tryL r r.pend).length vc)).setCell ⟨D, 1, none⟩ (.slice ma (tryM r r.pend).length mc)).heap[D]? = some (.cells #[.slice va (tryL r r.pend).length vc, .slice ma (tryM r r.pend).length mc, .int .i64 (idleR r).gen, .int .i64 (idleR r).phase, .slice none 0 0, .slice none 0 0, .bool (idleR r).pend.force] 28 (0, 0)) := by have := block_setCell (j := 1) hA1 (.slice ma (tryM r r.pend).length mc); simpa using this
    have HU3 := Lib.hid (setG_upd D (.slice va (tryL r r.pend).length vc) (.slice ma (tryM r r.pend).length mc) (.int .i64 (r.gen + 1)) x0)
    have HA3 := Lib.hid (setG_is (v0 := .slice va (tryL r r.pend).length vc) (v1 := .slice ma (tryM r r.pend).length mc) (v2 := .int .i64 (r.gen + 1)) hD0)
    have hC1 := hU1.blk hC0 (by omega)
    have hC2 := hU2.blk hC0 (by omega)
    have HC3 := Lib.hid (HU3.out.blk hC0 (by omega))
    have b0 := block_cell (j := 0) hD0 rfl
    have f0 := block_free (j := 0) hD0
    have b1 := block_cell (j := 1) hA1 rfl
    have f1 := block_free (j := 1) hA1
    have b2 := block_cell (j := 2) hA2 rfl
    have f2 := block_free (j := 2) hA2
    refine wpAnyH_take (i := 0) (v := .slice va (tryL r r.pend).length vc) rfl (by kernel_rfl) (by kernel_rfl) (by kernel_rfl) (fun _ _ _ h => h) (Or.inl ⟨by rfl, fun w hSw => ?_⟩) hC0 ?_
    · go_simp
    simp only [Act.put, List.getElem_toArray, List.getElem_cons_zero, List.getElem_cons_succ, List.setIfInBounds_toArray, List.set_cons_zero, List.set_cons_succ]
    refine wpAnyH_take (i := 1) (v := .slice ma (tryM r r.pend).length mc) rfl (by kernel_rfl) (by kernel_rfl) (by kernel_rfl) (fun _ _ _ h => h) (Or.inl ⟨by rfl, fun w hSw => ?_⟩) hC0 ?_
    · go_simp
    simp only [Act.put, List.getElem_toArray, List.getElem_cons_zero, List.getElem_cons_succ, List.setIfInBounds_toArray, List.set_cons_zero, List.set_cons_succ]
    refine wpAnyH_take (i := 2) (v := .pointer (some ⟨w.heap.size, 2, none⟩)) rfl (by kernel_rfl) (by kernel_rfl) (by kernel_rfl) (fun _ _ _ h => h) (Or.inl ⟨by rfl, fun w hSw => ?_⟩) hC0 ?_
    · go_simp
    simp only [Act.put, List.getElem_toArray, List.getElem_cons_zero, List.getElem_cons_succ, List.setIfInBounds_toArray, List.set_cons_zero, List.set_cons_succ]
    refine wpAnyH_take (i := 3) (v := .int .i64 r.gen) rfl (by kernel_rfl) (by kernel_rfl) (by kernel_rfl) (fun _ _ _ h => h) (Or.inl ⟨by rfl, fun w hSw => ?_⟩) hC0 ?_
    · have z2 := block_cell (j := 2) hSw rfl; go_simp
    simp only [Act.put, List.getElem_toArray, List.getElem_cons_zero, List.getElem_cons_succ, List.setIfInBounds_toArray, List.set_cons_zero, List.set_cons_succ]
    refine wpAnyH_take (i := 4) (v := .int .i64 (r.gen + 1)) rfl (by kernel_rfl) (by kernel_rfl) (by kernel_rfl) (fun _ _ _ h => h) (Or.inl ⟨by rfl, fun w hSw => ?_⟩) hC0 ?_
    · go_simp
    simp only [Act.put, List.getElem_toArray, List.getElem_cons_zero, List.getElem_cons_succ, List.setIfInBounds_toArray, List.set_cons_zero, List.set_cons_succ]
    refine wpAnyH_take (i := 5) (v := .pointer (some ⟨D, 0, none⟩)) rfl (by kernel_rfl) (by kernel_rfl) (by kernel_rfl) (fun _ _ _ h => h) (Or.inl ⟨by rfl, fun w hSw => ?_⟩) hC0 ?_
    · go_simp
    simp only [Act.put, List.getElem_toArray, List.getElem_cons_zero, List.getElem_cons_succ, List.setIfInBounds_toArray, List.set_cons_zero, List.set_cons_succ]
    refine wpAnyH_all (rs := [6]) (by kernel_rfl) (by simp) (fun j hj => ?_)
    obtain rfl : j = 6 := by simpa using hj
    refine Or.inl ?_
    go_wp2_with fail
    first | refine ⟨hC1, ?_⟩ | skip
    refine wpAnyH_take (i := 7) (v := .pointer (some ⟨D, 1, none⟩)) rfl (by kernel_rfl) (by kernel_rfl) (by kernel_rfl) (fun _ _ _ h => h) (Or.inl ⟨by rfl, fun w hSw => ?_⟩) hC1 ?_
    · go_simp
    simp only [Act.put, List.getElem_toArray, List.getElem_cons_zero, List.getElem_cons_succ, List.setIfInBounds_toArray, List.set_cons_zero, List.set_cons_succ]
    refine wpAnyH_all (rs := [8]) (by kernel_rfl) (by simp) (fun j hj => ?_)
    obtain rfl : j = 8 := by simpa using hj
    refine Or.inl ?_
    go_wp2_with fail
    first | refine ⟨hC2, ?_⟩ | skip
    refine wpAnyH_take (i := 9) (v := .pointer (some ⟨D, 2, none⟩)) rfl (by kernel_rfl) (by kernel_rfl) (by kernel_rfl) (fun _ _ _ h => h) (Or.inl ⟨by rfl, fun w hSw => ?_⟩) hC2 ?_
    · go_simp
    simp only [Act.put, List.getElem_toArray, List.getElem_cons_zero, List.getElem_cons_succ, List.setIfInBounds_toArray, List.set_cons_zero, List.set_cons_succ]
    refine wpAnyH_all (rs := [10]) (by kernel_rfl) (by simp) (fun j hj => ?_)
    obtain rfl : j = 10 := by simpa using hj
    refine Or.inl ?_
    go_wp2_with fail
    first | refine ⟨HC3.out, ?_⟩ | skip
    first | refine wpAnyH_done (by kernel_rfl) ?_ _ | refine ⟨by kernel_rfl, ?_⟩
    have HB := Lib.hid ((hQb _ hQ5).trans (HU3.out.below (B := w.heap.size) (hQb _ hQ5).size (fun b hb => by omega)))
    have hz := HU3.out.blk (HZ.out _ hQ5) (by omega)
    have Hv6 := Lib.hid (Hv.out.upd' HU3.out (fun b hb e => by omega))
    have Hu6 := Lib.hid (Hu.out.upd HU3.out (fun b hb e => by omega))
    have hA3 := HA3.out
    clear HU3 HA3 HC3 hU1 hU2 hA1 hA2 hC0 hC1 hC2 b0 f0 b1 f1 b2 f2 hD0 hQ5 Hv Hu hDl0
    first | change Exit.then _ _ _ _ (setG D (.slice va (tryL r r.pend).length vc) (.slice ma (tryM r r.pend).length mc) (.int .i64 (r.gen + 1)) x0) | change bodyPost _ _ _ _ _ (setG D (.slice va (tryL r r.pend).length vc) (.slice ma (tryM r r.pend).length mc) (.int .i64 (r.gen + 1)) x0) | skip
    generalize (setG D (.slice va (tryL r r.pend).length vc) (.slice ma (tryM r r.pend).length mc) (.int .i64 (r.gen + 1)) x0) = x5 at *
    have a0 := block_cell (j := 0) hA3 rfl
    have a1 := block_cell (j := 1) hA3 rfl
    have a2 := block_cell (j := 2) hA3 rfl
    have a3 := block_cell (j := 3) hA3 rfl
    have a4 := block_cell (j := 4) hA3 rfl
    have a5 := block_cell (j := 5) hA3 rfl
    have a6 := block_cell (j := 6) hA3 rfl
    clear hA3
    have HW := Lib.hid (set7_is (v0 := .slice va (tryL r r.pend).length vc) (v1 := .slice ma (tryM r r.pend).length mc) (v2 := .int .i64 (r.gen + 1)) (v3 := .int .i64 (idleR r).phase) (v4 := .slice none 0 0) (v5 := .slice none 0 0) (v6 := .bool (idleR r).pend.force) hz)
    have HU := Lib.hid (set7_upd (w.heap.size + 1) (.slice va (tryL r r.pend).length vc) (.slice ma (tryM r r.pend).length mc) (.int .i64 (r.gen + 1)) (.int .i64 (idleR r).phase) (.slice none 0 0) (.slice none 0 0) (.bool (idleR r).pend.force) x5)
    have g0 := block_cell (j := 0) hz rfl
    have g1 := block_cell (j := 1) hz rfl
    have g2 := block_cell (j := 2) hz rfl
    have g3 := block_cell (j := 3) hz rfl
    have g4 := block_cell (j := 4) hz rfl
    have g5 := block_cell (j := 5) hz rfl
    have g6 := block_cell (j := 6) hz rfl
    have f0 := block_free (j := 0) hz
    have f1 := block_free (j := 1) hz
    have f2 := block_free (j := 2) hz
    have f3 := block_free (j := 3) hz
    have f4 := block_free (j := 4) hz
    have f5 := block_free (j := 5) hz
    have f6 := block_free (j := 6) hz
    clear hz
    go_wp2_with fail
    change bodyPost _ _ _ _ _ (set7 (w.heap.size + 1) (.slice va (tryL r r.pend).length vc) (.slice ma (tryM r r.pend).length mc) (.int .i64 (r.gen + 1)) (.int .i64 (idleR r).phase) (.slice none 0 0) (.slice none 0 0) (.bool (idleR r).pend.force) x5)
    generalize set7 (w.heap.size + 1) (.slice va (tryL r r.pend).length vc) (.slice ma (tryM r r.pend).length mc) (.int .i64 (r.gen + 1)) (.int .i64 (idleR r).phase) (.slice none 0 0) (.slice none 0 0) (.bool (idleR r).pend.force) x5 = z at *
    have k0 := block_cell (j := 0) HW.out rfl
    have k1 := block_cell (j := 1) HW.out rfl
    have k2 := block_cell (j := 2) HW.out rfl
    have k3 := block_cell (j := 3) HW.out rfl
    have k4 := block_cell (j := 4) HW.out rfl
    have k5 := block_cell (j := 5) HW.out rfl
    have k6 := block_cell (j := 6) HW.out rfl
    refine bodyPost_ret (v := .tuple #[.agg #[.slice va (tryL r r.pend).length vc, .slice ma (tryM r r.pend).length mc, .int .i64 (r.gen + 1), .int .i64 (idleR r).phase, .slice none 0 0, .slice none 0 0, .bool (idleR r).pend.force], .int .i64 0]) (by simp [results, Tryz.results54, go_sem]; simp [k0, k1, k2, k3, k4, k5, k6] <;> rfl) rfl ?_
    exact ⟨_, _, .slice none 0 0, .slice none 0 0, by rw [HR.out, HE.out]; rfl, by rw [HR.out]; exact ⟨(Hv6.out.upd' HU.out (fun b hb e => by omega)).weaken fun b hb => hb.imp (fun h => h.1) (fun h => by omega), (Hu6.out.upd HU.out (fun b hb e => by omega)).weaken fun b hb => hb.imp (fun h => h.1) (fun h => by omega), StoreV.nil _ _ _ _ (by omega), MvsV.nil _ _ _ _ (by omega), HI.out, by first | (show I64 0; unfold I64; decide) | (show I64 1; unfold I64; decide) | (show I64 2; unfold I64; decide)⟩, HB.out.trans (HU.out.below (B := w.heap.size) HB.out.size (fun b hb => by omega))⟩
end Go.Proofs.YtdhoodloklgokaaGreatDoor
