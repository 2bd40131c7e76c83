
/- Walks: the law RepairSame. -/
import Derived.Test.YtjkbaallfkjmhaaRepE
import Derived.Test.YtjkbaallfkjmhaaRepP
import Derived.Test.YtjkbaallfkjmhaaAppG
import Derived.Deep.DeepCutAuto
import Derived.Deep.RegionHeld3
namespace Go.Proofs.Ytjkbaallfkjmhaa
open Go.RowKit
set_option linter.unusedVariables false
set_option linter.unusedSimpArgs false

set_option maxRecDepth 100000 in
set_option maxHeartbeats 8000000 in
theorem repairSame_any (n r : Rep) (sv rv ov uv sv2 rv2 ov2 uv2 : Value) (S S' : Nat → Prop) (w : World) (h : RepIs S w n sv rv ov uv) (h2 : RepIs S' w r sv2 rv2 ov2 uv2) :
    Calls Try.prog 4 #[repV n sv rv ov uv, repV r sv2 rv2 ov2 uv2] w fun e w' => e = .returned (.bool true) ∧ Below w.heap.size w w' := by
  have H := Lib.hid h
  have G := Lib.hid h2
  obtain ⟨sa, sc, rfl⟩ := h.store.vshape
  obtain ⟨⟨ra, rc⟩, rfl⟩ := h.refs.shape
  obtain ⟨oa, oc, rfl⟩ := h.objs.vshape
  obtain ⟨⟨ua, uc⟩, rfl⟩ := h.upds.shape
  obtain ⟨sa2, sc2, rfl⟩ := h2.store.vshape
  obtain ⟨⟨ra2, rc2⟩, rfl⟩ := h2.refs.shape
  obtain ⟨oa2, oc2, rfl⟩ := h2.objs.vshape
  obtain ⟨⟨ua2, uc2⟩, rfl⟩ := h2.upds.shape
  clear h h2
  simp only [repV]
  obtain ⟨R, hR, hR1, HB0⟩ := cls_allocs w [.cells #[.slice sa n.store.length sc, .slice ra n.refs.length rc, .int .i64 n.gen, .int .i64 n.phase, .slice oa n.pend.objects.length oc, .slice ua n.pend.updates.length uc, .bool n.pend.force] 28, .cells #[.slice sa2 r.store.length sc2, .slice ra2 r.refs.length rc2, .int .i64 r.gen, .int .i64 r.phase, .slice oa2 r.pend.objects.length oc2, .slice ua2 r.pend.updates.length uc2, .bool r.pend.force] 28]
  simp only [List.foldl] at hR1
  have hRb := hR.below
  have hRn := hR.next
  have HBn := Lib.hid (fun x (hx : In R x) => show x.heap[w.heap.size]? = some (.cells #[.slice sa n.store.length sc, .slice ra n.refs.length rc, .int .i64 n.gen, .int .i64 n.phase, .slice oa n.pend.objects.length oc, .slice ua n.pend.updates.length uc, .bool n.pend.force] 28 (0, 0)) from HB0 x hx 0 _ rfl)
  have HBr := Lib.hid (fun x (hx : In R x) => show x.heap[w.heap.size + 1]? = some (.cells #[.slice sa2 r.store.length sc2, .slice ra2 r.refs.length rc2, .int .i64 r.gen, .int .i64 r.phase, .slice oa2 r.pend.objects.length oc2, .slice ua2 r.pend.updates.length uc2, .bool r.pend.force] 28 (0, 0)) from HB0 x hx 1 _ rfl)
  clear HB0
  have y0 := block_cell (j := 0) (HBn.out _ hR1) rfl
  have y1 := block_cell (j := 1) (HBn.out _ hR1) rfl
  have y2 := block_cell (j := 2) (HBn.out _ hR1) rfl
  have y3 := block_cell (j := 3) (HBn.out _ hR1) rfl
  have y4 := block_cell (j := 4) (HBn.out _ hR1) rfl
  have y5 := block_cell (j := 5) (HBn.out _ hR1) rfl
  have y6 := block_cell (j := 6) (HBn.out _ hR1) rfl
  have z0 := block_cell (j := 0) (HBr.out _ hR1) rfl
  have z1 := block_cell (j := 1) (HBr.out _ hR1) rfl
  have z2 := block_cell (j := 2) (HBr.out _ hR1) rfl
  have z3 := block_cell (j := 3) (HBr.out _ hR1) rfl
  have z4 := block_cell (j := 4) (HBr.out _ hR1) rfl
  have z5 := block_cell (j := 5) (HBr.out _ hR1) rfl
  have z6 := block_cell (j := 6) (HBr.out _ hR1) rfl
  have HFr := Lib.hid (from_any n r _ _ _ _ _ _ _ _ _ _ _ (H.out.below (hRb _ hR1)) (G.out.below (hRb _ hR1)))
  simp only [repV] at HFr
  have HM := Lib.hid (fun (h : fromE n r = 0) => mended h)
  have HNo := Lib.hid (fun (h : fromE n r ≠ 0) => fromR_not h)
  generalize hA : fromR n r = A at *
  generalize hE : fromE n r = E at *
  go_enter Try.func4, Try.ntmps4
  go_wp2_with fail
  refine HFr.out.mono ?_
  rintro e x1 ⟨svt, rvt, ovt, uvt, rfl, hv, hb1⟩
  obtain ⟨saa, sca, rfl⟩ := hv.store.vshape
  obtain ⟨⟨raa, rca⟩, rfl⟩ := hv.refs.shape
  obtain ⟨oaa, oca, rfl⟩ := hv.objs.vshape
  obtain ⟨⟨uaa, uca⟩, rfl⟩ := hv.upds.shape
  have hRx1 := hRn _ _ hR1 hb1
  obtain ⟨T, hT, hT1, HT0⟩ := cls_allocs x1 [.cells #[.slice saa A.store.length sca, .slice raa A.refs.length rca, .int .i64 A.gen, .int .i64 A.phase, .slice oaa A.pend.objects.length oca, .slice uaa A.pend.updates.length uca, .bool A.pend.force] 28]
  simp only [List.foldl] at hT1
  have hTb := hT.below
  have hTn := hT.next
  have HBa := Lib.hid (fun x (hx : In T x) => show x.heap[x1.heap.size]? = some (.cells #[.slice saa A.store.length sca, .slice raa A.refs.length rca, .int .i64 A.gen, .int .i64 A.phase, .slice oaa A.pend.objects.length oca, .slice uaa A.pend.updates.length uca, .bool A.pend.force] 28 (0, 0)) from HT0 x hx 0 _ rfl)
  have hTR : ∀ x, In T x → In R x := fun x hx => hRn _ _ hRx1 (hTb x hx)
  have HA := Lib.hid (fun x (hx : In T x) => hv.below (hTb x hx))
  have HB := Lib.hid (fun x (hx : In T x) => hRb _ (hTR x hx))
  have HN := Lib.hid (fun x (hx : In T x) => H.out.below (hRb _ (hTR x hx)))
  have HR := Lib.hid (fun x (hx : In T x) => G.out.below (hRb _ (hTR x hx)))
  have HBn2 := Lib.hid (fun x (hx : In T x) => HBn.out x (hTR x hx))
  have HBr2 := Lib.hid (fun x (hx : In T x) => HBr.out x (hTR x hx))
  clear y0 y1 y2 y3 y4 y5 y6 z0 z1 z2 z3 z4 z5 z6 HT0 HFr HBn HBr hb1 hv hRx1 hR1 hRb hRn hTR hTb
  simp only [repV]
  go_wp2_with fail
  refine (repairBegun_any _).mono ?_
  rintro e x2 ⟨rfl, hb⟩
  have hT2 := hTn _ _ hT1 hb
  clear hb hT1
  go_wp2_with fail
  refine (storeBegun_any _).mono ?_
  rintro e x3 ⟨rfl, hb⟩
  have hT3 := hTn _ _ hT2 hb
  clear hb hT2
  by_cases hz : E = 0
  case neg =>
    have hq : (E != 0) = true := by simpa using hz
    have h0 : A = rep0 := HNo.out hz
    clear hz
    have a0 := block_cell (j := 0) (HBa.out _ hT3) rfl
    have hl : A.store.length = 0 := by rw [h0]; rfl
    rw [hl] at a0
    clear h0 hl
    have HEnd := Lib.hid (HB.out _ hT3)
    go_wp2_with fail
    go_ret
    exact ⟨rfl, HEnd.out⟩
  case pos =>
    subst hz
    have HM2 := Lib.hid (HM.out rfl)
    clear HM HNo
    have a0 := block_cell (j := 0) (HBa.out _ hT3) rfl
    have a1 := block_cell (j := 1) (HBa.out _ hT3) rfl
    have a2 := block_cell (j := 2) (HBa.out _ hT3) rfl
    have a3 := block_cell (j := 3) (HBa.out _ hT3) rfl
    have a4 := block_cell (j := 4) (HBa.out _ hT3) rfl
    have a5 := block_cell (j := 5) (HBa.out _ hT3) rfl
    have a6 := block_cell (j := 6) (HBa.out _ hT3) rfl
    have y0 := block_cell (j := 0) (HBn2.out _ hT3) rfl
    have y1 := block_cell (j := 1) (HBn2.out _ hT3) rfl
    have y2 := block_cell (j := 2) (HBn2.out _ hT3) rfl
    have y3 := block_cell (j := 3) (HBn2.out _ hT3) rfl
    have y4 := block_cell (j := 4) (HBn2.out _ hT3) rfl
    have y5 := block_cell (j := 5) (HBn2.out _ hT3) rfl
    have y6 := block_cell (j := 6) (HBn2.out _ hT3) rfl
    have HF2 := Lib.hid (from_any n A _ _ _ _ _ _ _ _ _ _ x3 (HN.out _ hT3) (HA.out _ hT3))
    rw [HM2.out.again.1, HM2.out.again.2] at HF2
    simp only [repV] at HF2
    go_wp2_with fail
    refine HF2.out.mono ?_
    rintro e x4 ⟨svt, rvt, ovt, uvt, rfl, hv, hb⟩
    obtain ⟨sab, scb, rfl⟩ := hv.store.vshape
    obtain ⟨⟨rab, rcb⟩, rfl⟩ := hv.refs.shape
    obtain ⟨oab, ocb, rfl⟩ := hv.objs.vshape
    obtain ⟨⟨uab, ucb⟩, rfl⟩ := hv.upds.shape
    have hT4 := hTn _ _ hT3 hb
    obtain ⟨U, hU, hU1, HU0⟩ := cls_allocs x4 [.cells #[.slice sab A.store.length scb, .slice rab A.refs.length rcb, .int .i64 A.gen, .int .i64 A.phase, .slice oab A.pend.objects.length ocb, .slice uab A.pend.updates.length ucb, .bool A.pend.force] 28]
    simp only [List.foldl] at hU1
    have hUb := hU.below
    have hUn := hU.next
    have hUT : ∀ x, In U x → In T x := fun x hx => hTn _ _ hT4 (hUb x hx)
    have HBb := Lib.hid (fun x (hx : In U x) => show x.heap[x4.heap.size]? = some (.cells #[.slice sab A.store.length scb, .slice rab A.refs.length rcb, .int .i64 A.gen, .int .i64 A.phase, .slice oab A.pend.objects.length ocb, .slice uab A.pend.updates.length ucb, .bool A.pend.force] 28 (0, 0)) from HU0 x hx 0 _ rfl)
    have HB2 := Lib.hid (fun x (hx : In U x) => hv.below (hUb x hx))
    clear a0 a1 a2 a3 a4 a5 a6 y0 y1 y2 y3 y4 y5 y6 HU0 HF2 hb hv
    have a0 := fun x (hx : In U x) => block_cell (j := 0) (HBa.out _ (hUT _ hx)) rfl
    have a1 := fun x (hx : In U x) => block_cell (j := 1) (HBa.out _ (hUT _ hx)) rfl
    have a2 := fun x (hx : In U x) => block_cell (j := 2) (HBa.out _ (hUT _ hx)) rfl
    have a3 := fun x (hx : In U x) => block_cell (j := 3) (HBa.out _ (hUT _ hx)) rfl
    have a4 := fun x (hx : In U x) => block_cell (j := 4) (HBa.out _ (hUT _ hx)) rfl
    have a5 := fun x (hx : In U x) => block_cell (j := 5) (HBa.out _ (hUT _ hx)) rfl
    have a6 := fun x (hx : In U x) => block_cell (j := 6) (HBa.out _ (hUT _ hx)) rfl
    have u0 := fun x (hx : In U x) => block_cell (j := 0) (HBb.out _ hx) rfl
    have u1 := fun x (hx : In U x) => block_cell (j := 1) (HBb.out _ hx) rfl
    have u2 := fun x (hx : In U x) => block_cell (j := 2) (HBb.out _ hx) rfl
    have u3 := fun x (hx : In U x) => block_cell (j := 3) (HBb.out _ hx) rfl
    have u4 := fun x (hx : In U x) => block_cell (j := 4) (HBb.out _ hx) rfl
    have u5 := fun x (hx : In U x) => block_cell (j := 5) (HBb.out _ hx) rfl
    have u6 := fun x (hx : In U x) => block_cell (j := 6) (HBb.out _ hx) rfl
    have y1 := fun x (hx : In U x) => block_cell (j := 1) (HBn2.out _ (hUT _ hx)) rfl
    have y2 := fun x (hx : In U x) => block_cell (j := 2) (HBn2.out _ (hUT _ hx)) rfl
    have HCk := Lib.hid (fun x (hx : In U x) => repCheck_any A _ _ _ _ _ x (HA.out _ (hUT _ hx)))
    rw [HM2.out.right] at HCk
    simp only [repV] at HCk
    have HSm := Lib.hid (fun x (hx : In U x) => sameReplica_any A A _ _ _ _ _ _ _ _ _ _ x (HA.out _ (hUT _ hx)) (HB2.out _ hx))
    rw [(sameRep_iff A A).2 rfl] at HSm
    simp only [repV] at HSm
    have HSr := Lib.hid (fun x (hx : In U x) => sameRefs_any A.refs n.refs _ _ _ _ x (HA.out _ (hUT _ hx)).refs (HN.out _ (hUT _ hx)).refs)
    rw [(sameRefs_iff A.refs n.refs).2 HM2.out.refs] at HSr
    have q1 : (A.gen != n.gen) = false := by simp [HM2.out.gen]
    have q2 : (A.phase != 0) = false := by simp [HM2.out.phase]
    simp only [repV]
    have aa0 := a0 _ hU1
    have aa1 := a1 _ hU1
    have aa2 := a2 _ hU1
    have aa3 := a3 _ hU1
    have aa4 := a4 _ hU1
    have aa5 := a5 _ hU1
    have aa6 := a6 _ hU1
    go_wp2_with fail
    refine (HCk.out _ hU1).mono ?_
    rintro e x5 ⟨rfl, hb⟩
    have hU2 := hUn _ _ hU1 hb
    clear hb aa0 aa1 aa2 aa3 aa4 aa5 aa6
    have aa0 := a0 _ hU2
    have uu0 := u0 _ hU2
    have aa1 := a1 _ hU2
    have uu1 := u1 _ hU2
    have aa2 := a2 _ hU2
    have uu2 := u2 _ hU2
    have aa3 := a3 _ hU2
    have uu3 := u3 _ hU2
    have aa4 := a4 _ hU2
    have uu4 := u4 _ hU2
    have aa5 := a5 _ hU2
    have uu5 := u5 _ hU2
    have aa6 := a6 _ hU2
    have uu6 := u6 _ hU2
    go_wp2_with fail
    refine (HSm.out _ hU2).mono ?_
    rintro e x6 ⟨rfl, hb⟩
    have hU3 := hUn _ _ hU2 hb
    clear hb aa0 aa1 aa2 aa3 aa4 aa5 aa6 uu0 uu1 uu2 uu3 uu4 uu5 uu6
    have aa1 := a1 _ hU3
    have aa2 := a2 _ hU3
    have aa3 := a3 _ hU3
    have yy1 := y1 _ hU3
    have yy2 := y2 _ hU3
    go_wp2_with fail
    refine (HSr.out _ hU3).mono ?_
    rintro e x7 ⟨rfl, hb⟩
    have hU4 := hUn _ _ hU3 hb
    clear hb aa1 aa2 aa3 yy1 yy2 a0 a1 a2 a3 a4 a5 a6 u0 u1 u2 u3 u4 u5 u6 y1 y2 HCk HSm HSr HB2 HBb q1 q2
    go_wp2_with fail
    have hn40 : n.store.length ≤ 40 := (checkStore_zero (repCheck_store HM2.out.newer)).1
    have hr40 : r.store.length ≤ 40 := (checkStore_zero (repCheck_store HM2.out.older)).1
    have y0 := fun x (hx : In U x) => block_cell (j := 0) (HBn2.out _ (hUT _ hx)) rfl
    have z0 := fun x (hx : In U x) => block_cell (j := 0) (HBr2.out _ (hUT _ hx)) rfl
    refine wp_region_held (S := In U) (by kernel_rfl) ?_
    change wpAnyH _ _ _ _ _ _ _ _ (World.drew _)
    have hC0 := hU.drew _ hU4
    generalize x7.drew = x8 at hC0 ⊢
    clear hU4
    refine wpAnyH_take (i := 1) (v := .pointer (some ⟨w.heap.size, 0, none⟩)) rfl (by kernel_rfl) (by kernel_rfl) (by kernel_rfl) (fun _ _ _ h => h) (Or.inl ⟨by rfl, fun w hSw => ?_⟩) hC0 ?_
    · go_simp
    simp only [Act.put, List.getElem_toArray, List.getElem_cons_zero, List.getElem_cons_succ, List.setIfInBounds_toArray, List.set_cons_zero, List.set_cons_succ]
    refine wpAnyH_take (i := 2) (v := .slice sa n.store.length sc) rfl (by kernel_rfl) (by kernel_rfl) (by kernel_rfl) (fun _ _ _ h => h) (Or.inl ⟨by rfl, fun w hSw => ?_⟩) hC0 ?_
    · have yy := y0 _ hSw; go_simp
    simp only [Act.put, List.getElem_toArray, List.getElem_cons_zero, List.getElem_cons_succ, List.setIfInBounds_toArray, List.set_cons_zero, List.set_cons_succ]
    refine wpAnyH_take (i := 4) (v := .pointer (some ⟨w.heap.size + 1, 0, none⟩)) rfl (by kernel_rfl) (by kernel_rfl) (by kernel_rfl) (fun _ _ _ h => h) (Or.inl ⟨by rfl, fun w hSw => ?_⟩) hC0 ?_
    · go_simp
    simp only [Act.put, List.getElem_toArray, List.getElem_cons_zero, List.getElem_cons_succ, List.setIfInBounds_toArray, List.set_cons_zero, List.set_cons_succ]
    refine wpAnyH_take (i := 5) (v := .slice sa2 r.store.length sc2) rfl (by kernel_rfl) (by kernel_rfl) (by kernel_rfl) (fun _ _ _ h => h) (Or.inl ⟨by rfl, fun w hSw => ?_⟩) hC0 ?_
    · have yy := z0 _ hSw; go_simp
    simp only [Act.put, List.getElem_toArray, List.getElem_cons_zero, List.getElem_cons_succ, List.setIfInBounds_toArray, List.set_cons_zero, List.set_cons_succ]
    refine wpAnyH_all (rs := [0]) (by kernel_rfl) (by simp) (fun j hj => ?_)
    obtain rfl : j = 0 := by simpa using hj
    refine Or.inl ?_
    have hC1 := hU.alloc _ (.cells #[] 47) hC0
    go_simp
    refine wpAnyH_all (rs := [3]) (by kernel_rfl) (by simp) (fun j hj => ?_)
    obtain rfl : j = 3 := by simpa using hj
    refine Or.inl ?_
    obtain ⟨g9, c9, x9, hr9, hG9, hb9⟩ := append_objs 22 (HN.out _ (hUT _ hC0)).store (by omega)
    refine wp_append_run (.tmp 70) (.tmp 72) 22 (by rfl) _ _ _ (by rfl) (by rfl) hr9 ?_
    simp only [Act.put, List.getElem_toArray, List.getElem_cons_zero, List.getElem_cons_succ, List.setIfInBounds_toArray, List.set_cons_zero, List.set_cons_succ]
    have hC2 := hUn _ _ hC0 hb9
    refine ⟨hC2, ?_⟩
    refine wpAnyH_all (rs := [6]) (by kernel_rfl) (by simp) (fun j hj => ?_)
    obtain rfl : j = 6 := by simpa using hj
    refine Or.inl ?_
    obtain ⟨v10, x10, hr10, hG10, hu10⟩ := append_gath 22 hG9.gath ((HR.out _ (hUT _ hC0)).store.lt.below hb9) (fun b hb => ⟨Nat.lt_of_lt_of_le hb.2 hb9.size, fun e => by have := (hG9.gath.block e).1; have := hb.2; omega⟩) (by omega) hb9.size
    have hb10 : Below x8.heap.size x8 x10 := hb9.trans (hu10.below (B := x8.heap.size) hb9.size (fun b hb => (hG9.gath.block hb).1))
    obtain ⟨a10, c10, rfl⟩ := hG10.shape
    refine wp_append_run (.tmp 73) (.tmp 75) 22 (by rfl) _ _ _ (by rfl) (by rfl) hr10 ?_
    simp only [Act.put, List.getElem_toArray, List.getElem_cons_zero, List.getElem_cons_succ, List.setIfInBounds_toArray, List.set_cons_zero, List.set_cons_succ]
    have hC3 := hUn _ _ hC0 hb10
    refine ⟨hC3, ?_⟩
    have Hst := Lib.hid (hG10.store (by rw [List.length_append]; omega))
    clear hr9 hG9 hb9 hr10 hG10 hu10 hb10 y0 z0
    refine wpAnyH_all (rs := [7]) (by kernel_rfl) (by simp) (fun j hj => ?_)
    obtain rfl : j = 7 := by simpa using hj
    refine Or.inl ?_
    go_wp2_with fail
    first | refine ⟨by kernel_rfl, ?_⟩ | refine ⟨hC3, by kernel_rfl, ?_⟩
    have Hall := Lib.hid (fun x (hx : x ∈ n.store ++ r.store) => HM2.out.find (x := x) (List.mem_append.1 hx))
    have Hal := Lib.hid (show (n.store ++ r.store).length ≤ 80 by rw [List.length_append]; omega)
    obtain ⟨all, hall⟩ : ∃ all, all = n.store ++ r.store := ⟨_, rfl⟩
    rw [← hall] at Hst Hall Hal
    obtain ⟨m, hm⟩ : ∃ m, m = n.store.length + r.store.length := ⟨_, rfl⟩
    have hml : m = all.length := by rw [hm, hall, List.length_append]
    rw [← hm]
    rw [← hml] at Hst Hal
    have HNl := Lib.hid (And.intro hml trivial)
    have hm80 := Hal.out
    clear hm hml hall Hal hn40 hr40 hC0 hC1 hC2
    -- LOOP
    have HK3 := Lib.hid (show Keep [cB w, cS (fun _ => True) (.slice a10 m c10) all, cS (fun _ => True) (.slice saa A.store.length sca) A.store, cH x1.heap.size (.cells #[.slice saa A.store.length sca, .slice raa A.refs.length rca, .int .i64 A.gen, .int .i64 A.phase, .slice oaa A.pend.objects.length oca, .slice uaa A.pend.updates.length uca, .bool A.pend.force] 28 (0, 0))] _ from ⟨HB.out _ (hUT _ hC3), Hst.out.weaken fun _ _ => trivial, (HA.out _ (hUT _ hC3)).store.weaken fun _ _ => trivial, HBa.out _ (hUT _ hC3), trivial⟩)
    have Hn := Lib.hid HNl.out.1
    clear Hst HNl HBa HBn2 HBr2 HA HB HN HR hU hUn hUb hUT hC3 hT hTn hT4 HM2 H G hR hT3
    go_wp2_with fail
    go_loopw [10] (fun i wr => ∃ j : Nat, j ≤ m ∧ i = .int .i64 j ∧ Hid (Keep [cB w, cS (fun _ => True) (.slice a10 m c10) all, cS (fun _ => True) (.slice saa A.store.length sca) A.store, cH x1.heap.size (.cells #[.slice saa A.store.length sca, .slice raa A.refs.length rca, .int .i64 A.gen, .int .i64 A.phase, .slice oaa A.pend.objects.length oca, .slice uaa A.pend.updates.length uca, .bool A.pend.force] 28 (0, 0))] wr)) (fun i _ => m - (intOf i).toNat)
    case atStart => exact ⟨0, by omega, rfl, HK3.out⟩
    case round =>
      obtain ⟨j, hj, rfl, HK4⟩ := hrel
      clear HK3
      obtain ⟨wo, rfl⟩ : ∃ wo : World, wo = wr := ⟨_, rfl⟩
      by_cases hlt : j < m
      · have hjl : j < all.length := by have := Hn.out; omega
        have hfw := Hall.out _ (obj_mem hjl)
        have hi1 : (0 : Int) ≤ (j : Int) := by omega
        have hi2 : (j : Int) < (m : Int) := by omega
        obtain ⟨b, off, p, c, e5, hat, ho⟩ := store_elem HK4.out.2.1 hjl
        cases e5
        go_upto_region 13 with fail
        go_cut [11, 12] (fun s11 s12 wx => ∃ D, s11 = .pointer (some ⟨D, 0, none⟩) ∧ s12 = .int .i64 0 ∧ ∃ y, y = wx ∧ ∃ p3 c3, Hid (Keep [cH D (.cells #[.int .i64 (obj all j).id, .int .i64 (obj all j).kind, .slice p3 (obj all j).links.length c3, .string (obj all j).text] 47 (0, 0)), cO (fun _ => True) (obj all j) (.slice p3 (obj all j).links.length c3), cB w, cS (fun _ => True) (.slice (some ⟨b, off, none⟩) m c10) all, cS (fun _ => True) (.slice saa A.store.length sca) A.store, cH x1.heap.size (.cells #[.slice saa A.store.length sca, .slice raa A.refs.length rca, .int .i64 A.gen, .int .i64 A.phase, .slice oaa A.pend.objects.length oca, .slice uaa A.pend.updates.length uca, .bool A.pend.force] 28 (0, 0))] y))
        case first =>
          obtain ⟨Q, hQ, hQ1, hQu⟩ := cls_new wo
          have hQb := hQ.below
          have hQn := hQ.next
          have HQu := Lib.hid hQu
          clear hQu
          have z0 := fun x (hx : In Q x) => (hat.below (hQb _ hx)).1
          have a00 := fun x (hx : In Q x) => block_cell (j := 0) (Keep.below HK4.out (hQb _ hx)).2.2.2.1 rfl
          have HF := Lib.hid (fun x (hx : In Q x) => storeFind_any A.store (obj all j).id _ _ x (Keep.below HK4.out (hQb _ hx)).2.2.1)
          rw [hfw.1, hfw.2] at HF
          clear hat ho hfw hjl
          refine wp_region_held (S := In Q) (by kernel_rfl) ?_
          change wpAnyH _ _ _ _ _ _ _ _ (World.drew _)
          have hC20 := hQ.drew _ hQ1
          generalize wo.drew = x20 at hC20 ⊢
          refine wpAnyH_take (i := 0) (v := .pointer (some ⟨x1.heap.size, 0, none⟩)) rfl (by kernel_rfl) (by kernel_rfl) (by kernel_rfl) (fun _ _ _ h => h) (Or.inl ⟨by rfl, fun w hSw => ?_⟩) hC20 ?_
          · go_simp
          simp only [Act.put, List.getElem_toArray, List.getElem_cons_zero, List.getElem_cons_succ, List.setIfInBounds_toArray, List.set_cons_zero, List.set_cons_succ]
          refine wpAnyH_take (i := 1) (v := .slice saa A.store.length sca) rfl (by kernel_rfl) (by kernel_rfl) (by kernel_rfl) (fun _ _ _ h => h) (Or.inl ⟨by rfl, fun w hSw => ?_⟩) hC20 ?_
          · have yy := a00 _ hSw; go_simp
          simp only [Act.put, List.getElem_toArray, List.getElem_cons_zero, List.getElem_cons_succ, List.setIfInBounds_toArray, List.set_cons_zero, List.set_cons_succ]
          refine wpAnyH_take (i := 2) (v := .slice (some ⟨b, off, none⟩) m c10) rfl (by kernel_rfl) (by kernel_rfl) (by kernel_rfl) (fun _ _ _ h => h) (Or.inl ⟨by rfl, fun w hSw => ?_⟩) hC20 ?_
          · go_simp
          simp only [Act.put, List.getElem_toArray, List.getElem_cons_zero, List.getElem_cons_succ, List.setIfInBounds_toArray, List.set_cons_zero, List.set_cons_succ]
          refine wpAnyH_take (i := 3) (v := .int .i64 (j : Int)) rfl (by kernel_rfl) (by kernel_rfl) (by kernel_rfl) (fun _ _ _ h => h) (Or.inl ⟨by rfl, fun w hSw => ?_⟩) hC20 ?_
          · go_simp
          simp only [Act.put, List.getElem_toArray, List.getElem_cons_zero, List.getElem_cons_succ, List.setIfInBounds_toArray, List.set_cons_zero, List.set_cons_succ]
          refine wpAnyH_take (i := 4) (v := .pointer (some ⟨b, off + j * 4, none⟩)) rfl (by kernel_rfl) (by kernel_rfl) (by kernel_rfl) (fun _ _ _ h => h) (Or.inl ⟨by rfl, fun w hSw => ?_⟩) hC20 ?_
          · go_simp
          simp only [Act.put, List.getElem_toArray, List.getElem_cons_zero, List.getElem_cons_succ, List.setIfInBounds_toArray, List.set_cons_zero, List.set_cons_succ]
          refine wpAnyH_take (i := 5) (v := .pointer (some ⟨b, off + j * 4, none⟩)) rfl (by kernel_rfl) (by kernel_rfl) (by kernel_rfl) (fun _ _ _ h => h) (Or.inl ⟨by rfl, fun w hSw => ?_⟩) hC20 ?_
          · go_simp
          simp only [Act.put, List.getElem_toArray, List.getElem_cons_zero, List.getElem_cons_succ, List.setIfInBounds_toArray, List.set_cons_zero, List.set_cons_succ]
          refine wpAnyH_take (i := 6) (v := .int .i64 (obj all j).id) rfl (by kernel_rfl) (by kernel_rfl) (by kernel_rfl) (fun _ _ _ h => h) (Or.inl ⟨by rfl, fun w hSw => ?_⟩) hC20 ?_
          · have yy := z0 _ hSw; go_simp
          simp only [Act.put, List.getElem_toArray, List.getElem_cons_zero, List.getElem_cons_succ, List.setIfInBounds_toArray, List.set_cons_zero, List.set_cons_succ]
          refine wpAnyH_all (rs := [7, 11]) (by kernel_rfl) (by simp) (fun j hj => ?_)
          rcases List.mem_cons.1 hj with rfl | hj
          · skip
            refine Or.inl ?_
            go_wp2_with fail
            refine (HF.out _ hC20).mono ?_
            rintro e x30 ⟨v, rfl, hv, hb1⟩
            obtain ⟨⟨p3, c3⟩, rfl⟩ := hv.1.shape
            have hC21 := hQn _ _ hC20 hb1
            have hx0 := (hQb _ hC20).size
            have HV := Lib.hid (hv.lt)
            clear hv hb1
            generalize x30 = x21 at *
            go_simp
            refine wpAnyH_take (i := 8) (v := .tuple #[.agg #[.int .i64 (obj all j).id, .int .i64 (obj all j).kind, .slice p3 (obj all j).links.length c3, .string (obj all j).text], .int .i64 0]) rfl (by kernel_rfl) (by kernel_rfl) (by kernel_rfl) (fun _ _ _ h => h) (Or.inl ⟨by rfl, fun w hSw => ?_⟩) hC21 ?_
            · go_simp
            simp only [Act.put, List.getElem_toArray, List.getElem_cons_zero, List.getElem_cons_succ, List.setIfInBounds_toArray, List.set_cons_zero, List.set_cons_succ]
            refine wpAnyH_take (i := 9) (v := .agg #[.int .i64 (obj all j).id, .int .i64 (obj all j).kind, .slice p3 (obj all j).links.length c3, .string (obj all j).text]) rfl (by kernel_rfl) (by kernel_rfl) (by kernel_rfl) (fun _ _ _ h => h) (Or.inl ⟨by rfl, fun w hSw => ?_⟩) hC21 ?_
            · go_simp
            simp only [Act.put, List.getElem_toArray, List.getElem_cons_zero, List.getElem_cons_succ, List.setIfInBounds_toArray, List.set_cons_zero, List.set_cons_succ]
            refine wpAnyH_take (i := 10) (v := .int .i64 0) rfl (by kernel_rfl) (by kernel_rfl) (by kernel_rfl) (fun _ _ _ h => h) (Or.inl ⟨by rfl, fun w hSw => ?_⟩) hC21 ?_
            · go_simp
            simp only [Act.put, List.getElem_toArray, List.getElem_cons_zero, List.getElem_cons_succ, List.setIfInBounds_toArray, List.set_cons_zero, List.set_cons_succ]
            refine wpAnyH_all (rs := [11]) (by kernel_rfl) (by simp) (fun j hj => ?_)
            obtain rfl : j = 11 := by simpa using hj
            refine Or.inl ?_
            have HV2 := Lib.hid ((HV.out.below ((Below.refl _ _).alloc (Nat.le_refl _) (.cells #[.int .i64 0, .int .i64 0, .slice none 0 0, .string ⟨#[]⟩] 47))).weaken (S' := fun b => b ≠ x21.heap.size) fun b hb e => by omega)
            clear HV
            have HDl := Lib.hid (show x21.heap.size < (x21.alloc (.cells #[.int .i64 0, .int .i64 0, .slice none 0 0, .string ⟨#[]⟩] 47)).heap.size by simp)
            have hC22 := hQ.alloc _ (.cells #[.int .i64 0, .int .i64 0, .slice none 0 0, .string ⟨#[]⟩] 47) hC21
            go_simp
            have hbA : Below x21.heap.size x21 (x21.alloc (.cells #[.int .i64 0, .int .i64 0, .slice none 0 0, .string ⟨#[]⟩] 47)) := (Below.refl _ _).alloc (Nat.le_refl _) _
            have HDb := Lib.hid (heap_alloc_new x21 (.cells #[.int .i64 0, .int .i64 0, .slice none 0 0, .string ⟨#[]⟩] 47))
            have HDge := Lib.hid (hQb _ hC21).size
            clear hbA
            generalize x21.heap.size = D at *
            generalize x21.alloc (.cells #[.int .i64 0, .int .i64 0, .slice none 0 0, .string ⟨#[]⟩] 47) = x22 at *
            refine wpAnyH_all (rs := [12]) (by kernel_rfl) (by simp) (fun j hj => ?_)
            obtain rfl : j = 12 := by simpa using hj
            refine Or.inl ?_
            have hblk := HDb.out
            have g0 := block_cell (j := 0) hblk rfl
            have g1 := block_cell (j := 1) hblk rfl
            have g2 := block_cell (j := 2) hblk rfl
            have g3 := block_cell (j := 3) hblk rfl
            have f0 := block_free (j := 0) hblk
            have f1 := block_free (j := 1) hblk
            have f2 := block_free (j := 2) hblk
            have f3 := block_free (j := 3) hblk
            have Hb7 := Lib.hid (set4_is (v0 := .int .i64 (obj all j).id) (v1 := .int .i64 (obj all j).kind) (v2 := .slice p3 (obj all j).links.length c3) (v3 := .string (obj all j).text) hblk)
            have Hu7 := Lib.hid (set4_upd D (.int .i64 (obj all j).id) (.int .i64 (obj all j).kind) (.slice p3 (obj all j).links.length c3) (.string (obj all j).text) x22)
            have hQ7 := HQu.out _ _ _ hC22 Hu7.out (fun b hb => by have := HDge.out; omega)
            have Hv7 := Lib.hid ((HV2.out.upd Hu7.out (fun b hb e => hb e)).weaken fun _ _ => trivial)
            go_wp2_with fail
            first | refine ⟨hQ7, ?_⟩ | skip
            change wpAnyH _ _ _ _ _ _ _ _ (set4 D (.int .i64 (obj all j).id) (.int .i64 (obj all j).kind) (.slice p3 (obj all j).links.length c3) (.string (obj all j).text) x22)
            generalize set4 D (.int .i64 (obj all j).id) (.int .i64 (obj all j).kind) (.slice p3 (obj all j).links.length c3) (.string (obj all j).text) x22 = w7 at *
            clear g0 g1 g2 g3 f0 f1 f2 f3 hblk Hu7
            refine wpAnyH_all (rs := [13]) (by kernel_rfl) (by simp) (fun j hj => ?_)
            obtain rfl : j = 13 := by simpa using hj
            refine Or.inl ?_
            go_wp2_with fail
            first | refine ⟨hQ7, by kernel_rfl, ?_⟩ | refine ⟨by kernel_rfl, ?_⟩
            have HEnd := Lib.hid (show Keep [cH D (.cells #[.int .i64 (obj all j).id, .int .i64 (obj all j).kind, .slice p3 (obj all j).links.length c3, .string (obj all j).text] 47 (0, 0)), cO (fun _ => True) (obj all j) (.slice p3 (obj all j).links.length c3), cB w, cS (fun _ => True) (.slice (some ⟨b, off, none⟩) m c10) all, cS (fun _ => True) (.slice saa A.store.length sca) A.store, cH x1.heap.size (.cells #[.slice saa A.store.length sca, .slice raa A.refs.length rca, .int .i64 A.gen, .int .i64 A.phase, .slice oaa A.pend.objects.length oca, .slice uaa A.pend.updates.length uca, .bool A.pend.force] 28 (0, 0))] w7 from ⟨Hb7.out, Hv7.out, HK4.out.below (hQb _ hQ7)⟩)
            go_wp2_with fail
            go_meet
            refine ⟨D, ?_, ?_, w7, ?_, p3, c3, ?_⟩
            · rfl
            · rfl
            · rfl
            · exact HEnd
          · skip
            obtain rfl : j = 11 := by simpa using hj
            refine Or.inl ?_
            have HDl := Lib.hid (show x20.heap.size < (x20.alloc (.cells #[.int .i64 0, .int .i64 0, .slice none 0 0, .string ⟨#[]⟩] 47)).heap.size by simp)
            have hC21 := hQ.alloc _ (.cells #[.int .i64 0, .int .i64 0, .slice none 0 0, .string ⟨#[]⟩] 47) hC20
            go_simp
            have hbA : Below x20.heap.size x20 (x20.alloc (.cells #[.int .i64 0, .int .i64 0, .slice none 0 0, .string ⟨#[]⟩] 47)) := (Below.refl _ _).alloc (Nat.le_refl _) _
            have HDb := Lib.hid (heap_alloc_new x20 (.cells #[.int .i64 0, .int .i64 0, .slice none 0 0, .string ⟨#[]⟩] 47))
            have HDge := Lib.hid (hQb _ hC20).size
            clear hbA
            generalize x20.heap.size = D at *
            generalize x20.alloc (.cells #[.int .i64 0, .int .i64 0, .slice none 0 0, .string ⟨#[]⟩] 47) = x21 at *
            refine wpAnyH_all (rs := [7]) (by kernel_rfl) (by simp) (fun j hj => ?_)
            obtain rfl : j = 7 := by simpa using hj
            refine Or.inl ?_
            go_wp2_with fail
            refine (HF.out _ hC21).mono ?_
            rintro e x31 ⟨v, rfl, hv, hb1⟩
            obtain ⟨⟨p3, c3⟩, rfl⟩ := hv.1.shape
            have hC22 := hQn _ _ hC21 hb1
            replace HDb := Lib.hid (blk_below HDb.out hb1)
            have hx0 := (hQb _ hC21).size
            have HV := Lib.hid (hv.lt)
            have HV2 := Lib.hid (HV.out.weaken (S' := fun b => b ≠ D) fun b hb e => by have := HDl.out; omega)
            clear hv hb1
            generalize x31 = x22 at *
            go_simp
            refine wpAnyH_take (i := 8) (v := .tuple #[.agg #[.int .i64 (obj all j).id, .int .i64 (obj all j).kind, .slice p3 (obj all j).links.length c3, .string (obj all j).text], .int .i64 0]) rfl (by kernel_rfl) (by kernel_rfl) (by kernel_rfl) (fun _ _ _ h => h) (Or.inl ⟨by rfl, fun w hSw => ?_⟩) hC22 ?_
            · go_simp
            simp only [Act.put, List.getElem_toArray, List.getElem_cons_zero, List.getElem_cons_succ, List.setIfInBounds_toArray, List.set_cons_zero, List.set_cons_succ]
            refine wpAnyH_take (i := 9) (v := .agg #[.int .i64 (obj all j).id, .int .i64 (obj all j).kind, .slice p3 (obj all j).links.length c3, .string (obj all j).text]) rfl (by kernel_rfl) (by kernel_rfl) (by kernel_rfl) (fun _ _ _ h => h) (Or.inl ⟨by rfl, fun w hSw => ?_⟩) hC22 ?_
            · go_simp
            simp only [Act.put, List.getElem_toArray, List.getElem_cons_zero, List.getElem_cons_succ, List.setIfInBounds_toArray, List.set_cons_zero, List.set_cons_succ]
            refine wpAnyH_take (i := 10) (v := .int .i64 0) rfl (by kernel_rfl) (by kernel_rfl) (by kernel_rfl) (fun _ _ _ h => h) (Or.inl ⟨by rfl, fun w hSw => ?_⟩) hC22 ?_
            · go_simp
            simp only [Act.put, List.getElem_toArray, List.getElem_cons_zero, List.getElem_cons_succ, List.setIfInBounds_toArray, List.set_cons_zero, List.set_cons_succ]
            refine wpAnyH_all (rs := [12]) (by kernel_rfl) (by simp) (fun j hj => ?_)
            obtain rfl : j = 12 := by simpa using hj
            refine Or.inl ?_
            have hblk := HDb.out
            have g0 := block_cell (j := 0) hblk rfl
            have g1 := block_cell (j := 1) hblk rfl
            have g2 := block_cell (j := 2) hblk rfl
            have g3 := block_cell (j := 3) hblk rfl
            have f0 := block_free (j := 0) hblk
            have f1 := block_free (j := 1) hblk
            have f2 := block_free (j := 2) hblk
            have f3 := block_free (j := 3) hblk
            have Hb7 := Lib.hid (set4_is (v0 := .int .i64 (obj all j).id) (v1 := .int .i64 (obj all j).kind) (v2 := .slice p3 (obj all j).links.length c3) (v3 := .string (obj all j).text) hblk)
            have Hu7 := Lib.hid (set4_upd D (.int .i64 (obj all j).id) (.int .i64 (obj all j).kind) (.slice p3 (obj all j).links.length c3) (.string (obj all j).text) x22)
            have hQ7 := HQu.out _ _ _ hC22 Hu7.out (fun b hb => by have := HDge.out; omega)
            have Hv7 := Lib.hid ((HV2.out.upd Hu7.out (fun b hb e => hb e)).weaken fun _ _ => trivial)
            go_wp2_with fail
            first | refine ⟨hQ7, ?_⟩ | skip
            change wpAnyH _ _ _ _ _ _ _ _ (set4 D (.int .i64 (obj all j).id) (.int .i64 (obj all j).kind) (.slice p3 (obj all j).links.length c3) (.string (obj all j).text) x22)
            generalize set4 D (.int .i64 (obj all j).id) (.int .i64 (obj all j).kind) (.slice p3 (obj all j).links.length c3) (.string (obj all j).text) x22 = w7 at *
            clear g0 g1 g2 g3 f0 f1 f2 f3 hblk Hu7
            refine wpAnyH_all (rs := [13]) (by kernel_rfl) (by simp) (fun j hj => ?_)
            obtain rfl : j = 13 := by simpa using hj
            refine Or.inl ?_
            go_wp2_with fail
            first | refine ⟨hQ7, by kernel_rfl, ?_⟩ | refine ⟨by kernel_rfl, ?_⟩
            have HEnd := Lib.hid (show Keep [cH D (.cells #[.int .i64 (obj all j).id, .int .i64 (obj all j).kind, .slice p3 (obj all j).links.length c3, .string (obj all j).text] 47 (0, 0)), cO (fun _ => True) (obj all j) (.slice p3 (obj all j).links.length c3), cB w, cS (fun _ => True) (.slice (some ⟨b, off, none⟩) m c10) all, cS (fun _ => True) (.slice saa A.store.length sca) A.store, cH x1.heap.size (.cells #[.slice saa A.store.length sca, .slice raa A.refs.length rca, .int .i64 A.gen, .int .i64 A.phase, .slice oaa A.pend.objects.length oca, .slice uaa A.pend.updates.length uca, .bool A.pend.force] 28 (0, 0))] w7 from ⟨Hb7.out, Hv7.out, HK4.out.below (hQb _ hQ7)⟩)
            go_wp2_with fail
            go_meet
            refine ⟨D, ?_, ?_, w7, ?_, p3, c3, ?_⟩
            · rfl
            · rfl
            · rfl
            · exact HEnd
        case rest =>
          obtain ⟨D, rfl, rfl, x10, rfl, p3, c3, HK5⟩ := hcut
          clear hat ho hfw hjl
          obtain ⟨T, hT, hT1, _⟩ := cls_plain x10
          have hTb := hT.below
          have hTg := cls_grown hT
          have y0 := fun x (hx : In T x) => block_cell (j := 0) (Keep.below HK5.out (hTb _ hx)).1 rfl
          have y1 := fun x (hx : In T x) => block_cell (j := 1) (Keep.below HK5.out (hTb _ hx)).1 rfl
          have y2 := fun x (hx : In T x) => block_cell (j := 2) (Keep.below HK5.out (hTb _ hx)).1 rfl
          have y3 := fun x (hx : In T x) => block_cell (j := 3) (Keep.below HK5.out (hTb _ hx)).1 rfl
          obtain ⟨b', off', p', c', e5, hat, ho⟩ := store_elem HK5.out.2.2.2.1 (i := j) (by have := Hn.out; omega)
          cases e5
          have z0 := fun x (hx : In T x) => (hat.below (hTb _ hx)).1
          have z1 := fun x (hx : In T x) => (hat.below (hTb _ hx)).2.1
          have z2 := fun x (hx : In T x) => (hat.below (hTb _ hx)).2.2.1
          have z3 := fun x (hx : In T x) => (hat.below (hTb _ hx)).2.2.2
          have hSO := fun x (hx : In T x) => sameObject_any (obj all j) (obj all j) _ _ _ _ x (HK5.out.2.1.below (hTb _ hx)) (ho.below (hTb _ hx))
          rw [(sameObj_iff _ _).2 rfl] at hSO
          have HSO := Lib.hid hSO
          clear hSO
          clear hat ho
          go_wp2_with fail
          refine wp_region_quiet_below (by kernel_rfl) (by kernel_rfl) ?_
          repeat (first | go_big_quiet_skip | quiet_step (exact Calls.regrown_of (HSO.out _ (hTg _ _ _ hT1))))
          refine wpQuiet_nil ?_
          intro _ hw'
          obtain ⟨⟨dq, osq⟩, hw''⟩ := hw'
          subst hw''
          have hT2 := hTg _ dq osq hT1
          generalize Go.Sort.grow (redrawn _ dq) osq = x13 at *
          have HK8 := Lib.hid (HK5.out.below (hTb _ hT2))
          clear y0 y1 y2 y3 z0 z1 z2 z3 HSO hT1 HK5 hT2 hTb hTg
          go_wp2_with fail
          go_roundw
          case rel => exact ⟨j + 1, by omega, by go_num, HK8.out.2.2⟩
          case measure => simp [intOf]; omega
      · obtain rfl : j = m := by omega
        go_wp2_with fail
        go_ret
        exact ⟨rfl, HK4.out.1⟩
end Go.Proofs.Ytjkbaallfkjmhaa
