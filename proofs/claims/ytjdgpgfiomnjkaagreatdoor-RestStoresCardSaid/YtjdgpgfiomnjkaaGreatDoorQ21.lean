
/- CopiedB: walks of copiedPush and copiedReplica. -/
import Derived.Test.YtjdgpgfiomnjkaaGreatDoorQ20
namespace Go.Proofs.YtjdgpgfiomnjkaaGreatDoor
open Go.RowKit
set_option linter.unusedVariables false
set_option linter.unusedSimpArgs false
set_option linter.unusedSectionVars false
variable [Ghost]
set_option maxRecDepth 100000 in
set_option maxHeartbeats 4000000 in
theorem copiedPush_any (p : Psh) (ov uv : Value) (S S1 : Nat → Prop) (w : World) (ho : StoreV S w ov p.objects) (hu : MvsV S1 w uv p.updates) :
  Calls Tryz.prog 16 #[.agg #[ov, uv, .bool p.force]] w fun e w' => ∃ q u, e = .returned (.agg #[q, u, .bool p.force]) ∧ StoreV (fun b => w.heap.size ≤ b) w' q p.objects ∧ MvsV (fun b => w.heap.size ≤ b) w' u p.updates ∧ Below w.heap.size w w' := by
 obtain ⟨oa, oc, rfl⟩ := ho.vshape
 obtain ⟨⟨ua, uc⟩, rfl⟩ := hu.shape
 have Hby := Lib.hid hu.bytes
 obtain ⟨Q, hQ, hQ0, hQu0⟩ := cls_new (w.alloc (.cells #[.slice oa p.objects.length oc, .slice ua p.updates.length uc, .bool p.force] 26))
 have hQ1 := hQ.alloc _ (.cells #[.slice none 0 0, .slice none 0 0, .bool false] 26) hQ0
 have hQb := hQ.below
 have hQn := hQ.next
 have HQu := Lib.hid hQu0
 clear hQu0
 have hzw : (w.alloc (.cells #[.slice oa p.objects.length oc, .slice ua p.updates.length uc, .bool p.force] 26)).heap.size = w.heap.size + 1 := by simp
 have hbw : Below w.heap.size w (w.alloc (.cells #[.slice oa p.objects.length oc, .slice ua p.updates.length uc, .bool p.force] 26)) := (Below.refl _ _).alloc (Nat.le_refl _) _
 have HX1 := Lib.hid (show (w.alloc (.cells #[.slice oa p.objects.length oc, .slice ua p.updates.length uc, .bool p.force] 26)).heap[w.heap.size]? = some (.cells #[.slice oa p.objects.length oc, .slice ua p.updates.length uc, .bool p.force] 26 (0, 0)) from heap_alloc_new w _)
 have HX2 := Lib.hid (show ((w.alloc (.cells #[.slice oa p.objects.length oc, .slice ua p.updates.length uc, .bool p.force] 26)).alloc (.cells #[.slice none 0 0, .slice none 0 0, .bool false] 26)).heap[w.heap.size + 1]? = some (.cells #[.slice none 0 0, .slice none 0 0, .bool false] 26 (0, 0)) from by have := heap_alloc_new (w.alloc (.cells #[.slice oa p.objects.length oc, .slice ua p.updates.length uc, .bool p.force] 26)) (.cells #[.slice none 0 0, .slice none 0 0, .bool false] 26); simpa using this)
 have HB := Lib.hid (fun x (hx : In Q x) => hbw.trans ((hQb _ hx).mono (by rw [hzw]; omega)))
 have d0 := fun x (hx : In Q x) => below_cell (hQb _ hx) (block_cell (j := 0) HX1.out rfl)
 have d1 := fun x (hx : In Q x) => below_cell (hQb _ hx) (block_cell (j := 1) HX1.out rfl)
 have d2 := fun x (hx : In Q x) => below_cell (hQb _ hx) (block_cell (j := 2) HX1.out rfl)
 have HCs := Lib.hid (fun x (hx : In Q x) => copiedStore_any p.objects _ S x (ho.below (HB.out _ hx)))
 have HBu := Lib.hid (fun x (hx : In Q x) => hu.below (HB.out _ hx))
 clear ho hu
 clear hbw
 go_enter Tryz.func16, Tryz.ntmps16
 go_upto_region 1 with fail
 have HZ0 := Lib.hid (show ((w.alloc (.cells #[.slice oa p.objects.length oc, .slice ua p.updates.length uc, .bool p.force] 26)).alloc (.cells #[.slice none 0 0, .slice none 0 0, .bool false] 26)).drew.heap[w.heap.size + 1]? = some (.cells #[.slice none 0 0, .slice none 0 0, .bool false] 26 (0, 0)) from HX2.out)
 clear HX1 HX2 hQ0
 generalize hw1 : ((w.alloc (.cells #[.slice oa p.objects.length oc, .slice ua p.updates.length uc, .bool p.force] 26)).alloc (.cells #[.slice none 0 0, .slice none 0 0, .bool false] 26)) = w1 at *
 clear hw1
 refine wp_region_held (S := In Q) (by kernel_rfl) ?_
 change wpAnyH _ _ _ _ _ _ _ _ (World.drew _)
 have hC0 := hQ.drew _ hQ1
 generalize w1.drew = x0 at hC0 HZ0 ⊢
 refine wpAnyH_take (i := 0) (v := .pointer (some ⟨w.heap.size, 0, none⟩)) rfl (by kernel_rfl) (by kernel_rfl) (by kernel_rfl) (fun _ _ _ h => h) (Or.inl ⟨by rfl, fun w hSw => ?_⟩) hC0 ?_
 ·go_simp
 simp only [Act.put, List.getElem_toArray, List.getElem_cons_zero, List.getElem_cons_succ, List.setIfInBounds_toArray, List.set_cons_zero, List.set_cons_succ]
 refine wpAnyH_take (i := 1) (v := .slice oa p.objects.length oc) rfl (by kernel_rfl) (by kernel_rfl) (by kernel_rfl) (fun _ _ _ h => h) (Or.inl ⟨by rfl, fun w hSw => ?_⟩) hC0 ?_
 ·have yy := d0 _ hSw; go_simp
 simp only [Act.put, List.getElem_toArray, List.getElem_cons_zero, List.getElem_cons_succ, List.setIfInBounds_toArray, List.set_cons_zero, List.set_cons_succ]
 refine wpAnyH_take (i := 4) (v := .pointer (some ⟨w.heap.size, 1, none⟩)) rfl (by kernel_rfl) (by kernel_rfl) (by kernel_rfl) (fun _ _ _ h => h) (Or.inl ⟨by rfl, fun w hSw => ?_⟩) hC0 ?_
 ·go_simp
 simp only [Act.put, List.getElem_toArray, List.getElem_cons_zero, List.getElem_cons_succ, List.setIfInBounds_toArray, List.set_cons_zero, List.set_cons_succ]
 refine wpAnyH_take (i := 5) (v := .slice ua p.updates.length uc) rfl (by kernel_rfl) (by kernel_rfl) (by kernel_rfl) (fun _ _ _ h => h) (Or.inl ⟨by rfl, fun w hSw => ?_⟩) hC0 ?_
 ·have yy := d1 _ hSw; go_simp
 simp only [Act.put, List.getElem_toArray, List.getElem_cons_zero, List.getElem_cons_succ, List.setIfInBounds_toArray, List.set_cons_zero, List.set_cons_succ]
 refine wpAnyH_take (i := 7) (v := .pointer (some ⟨w.heap.size, 2, none⟩)) rfl (by kernel_rfl) (by kernel_rfl) (by kernel_rfl) (fun _ _ _ h => h) (Or.inl ⟨by rfl, fun w hSw => ?_⟩) hC0 ?_
 ·go_simp
 simp only [Act.put, List.getElem_toArray, List.getElem_cons_zero, List.getElem_cons_succ, List.setIfInBounds_toArray, List.set_cons_zero, List.set_cons_succ]
 refine wpAnyH_take (i := 8) (v := .bool p.force) rfl (by kernel_rfl) (by kernel_rfl) (by kernel_rfl) (fun _ _ _ h => h) (Or.inl ⟨by rfl, fun w hSw => ?_⟩) hC0 ?_
 ·have yy := d2 _ hSw; go_simp
 simp only [Act.put, List.getElem_toArray, List.getElem_cons_zero, List.getElem_cons_succ, List.setIfInBounds_toArray, List.set_cons_zero, List.set_cons_succ]
 refine wpAnyH_all (rs := [2, 3]) (by kernel_rfl) (by simp) (fun j hj => ?_)
 rcases List.mem_cons.1 hj with rfl | hj
 ·refine Or.inl ?_
  have hq0 := lt_of_block HZ0.out
  go_wp2_with fail
  refine (HCs.out _ hC0).mono ?_
  rintro e x1 ⟨q3, rfl, hv3, hb3⟩
  obtain ⟨a3, c3, rfl⟩ := hv3.vshape
  have hC1 := hQn _ _ hC0 hb3
  have hz1 := hb3.size
  have Hv3 := Lib.hid (hv3.lt)
  have HZ1 := Lib.hid (blk_below HZ0.out hb3)
  clear hv3 hb3
  go_simp
  refine wpAnyH_all (rs := [3]) (by kernel_rfl) (by simp) (fun j hj => ?_)
  obtain rfl : j = 3 := by simpa using hj
  refine Or.inl ?_
  have hC2 := hQ.alloc _ (.cells #[] 107) hC1
  have HO := Lib.hid (ownU_empty x1)
  have HZ2 := Lib.hid (show (x1.alloc (.cells #[] 107)).heap[w.heap.size + 1]? = some (.cells #[.slice none 0 0, .slice none 0 0, .bool false] 26 (0, 0)) from (Below.heap_alloc _ _ _ (lt_of_block HZ1.out)).trans HZ1.out)
  have hz2 : x1.heap.size + 1 = (x1.alloc (.cells #[] 107)).heap.size := by simp
  have hbA : Below x1.heap.size x1 (x1.alloc (.cells #[] 107)) := (Below.refl _ _).alloc (Nat.le_refl _) _
  have Hv4 := Lib.hid (show StoreV (fun b => w.heap.size + 2 ≤ b ∧ b < (x1.alloc (.cells #[] 107)).heap.size ∧ b ≠ x1.heap.size) _ (.slice a3 p.objects.length c3) p.objects from (Hv3.out.below hbA).weaken fun b hb => ⟨by omega, by omega, by omega⟩)
  replace HO := Lib.hid (show OwnU (w.heap.size + 2) _ _ [] from ⟨own_mono HO.out.1 (show w.heap.size + 2 ≤ x1.heap.size by omega), HO.out.2⟩)
  clear hbA Hv3
  go_simp
  generalize x1.heap.size = E at *
  generalize x1.alloc (.cells #[] 107) = x2 at *
  refine wpAnyH_all (rs := [6]) (by kernel_rfl) (by simp) (fun j hj => ?_)
  obtain rfl : j = 6 := by simpa using hj
  refine Or.inl ?_
  have hq2 := lt_of_block HZ2.out
  obtain ⟨v4, x3, hr4, hO4, hu4⟩ := appendMvs_row (l := []) 24 HO.out (HBu.out _ hC2) (by have := Hby.out; simp; omega) (show w.heap.size + 2 ≤ x2.heap.size by omega)
  have hC3 := HQu.out _ _ _ hC2 hu4 (fun b hb => by have := (HO.out.block hb).1; have := hzw; omega)
  have HZ3 := Lib.hid (hu4.blk HZ2.out (fun e => by have := (HO.out.block e).1; omega))
  have Hv5 := Lib.hid (Hv4.out.upd' hu4 (fun b hb e => hb.2.2 (by have e2 := e; simp [Value.ownBlock] at e2; omega)))
  have hz3 := hu4.size
  rw [List.nil_append] at hO4
  obtain ⟨a4, c4, rfl⟩ := hO4.shape
  have Hv6 := Lib.hid ((hO4.mvs Hby.out).weaken (fun b hb => (show w.heap.size + 2 ≤ b ∧ b < x3.heap.size from hO4.block hb.2)))
  clear hO4 hu4
  refine wp_append_run (.tmp 6) (.tmp 8) 24 (by rfl) _ _ _ (by rfl) (by rfl) hr4 ?_
  simp only [Act.put, List.getElem_toArray, List.getElem_cons_zero, List.getElem_cons_succ, List.setIfInBounds_toArray, List.set_cons_zero, List.set_cons_succ]
  refine ⟨hC3, ?_⟩
  clear hr4 HO Hv4
  refine wpAnyH_take (i := 9) (v := .agg #[.slice a3 p.objects.length c3, .slice a4 p.updates.length c4, .bool p.force]) rfl (by kernel_rfl) (by kernel_rfl) (by kernel_rfl) (fun _ _ _ h => h) (Or.inl ⟨by rfl, fun w hSw => ?_⟩) hC3 ?_
  ·go_simp
  simp only [Act.put, List.getElem_toArray, List.getElem_cons_zero, List.getElem_cons_succ, List.setIfInBounds_toArray, List.set_cons_zero, List.set_cons_succ]
  refine wpAnyH_all (rs := [10]) (by kernel_rfl) (by simp) (fun j hj => ?_)
  obtain rfl : j = 10 := by simpa using hj
  refine Or.inl ?_
  have hq := lt_of_block HZ3.out
  have hblk := HZ3.out
  have g0 := block_cell (j := 0) hblk rfl
  have f0 := block_free (j := 0) hblk
  have g1 := block_cell (j := 1) hblk rfl
  have f1 := block_free (j := 1) hblk
  have g2 := block_cell (j := 2) hblk rfl
  have f2 := block_free (j := 2) hblk
  have Hb9 := Lib.hid (set3_is (v0 := .slice a3 p.objects.length c3) (v1 := .slice a4 p.updates.length c4) (v2 := .bool p.force) hblk)
  have Hu9 := Lib.hid (set3_upd (w.heap.size + 1) (.slice a3 p.objects.length c3) (.slice a4 p.updates.length c4) (.bool p.force) x3)
  have HB9 := Lib.hid ((HB.out _ hC3).trans (Hu9.out.below (B := w.heap.size) (by omega) (fun b hb => by have e2 : b = w.heap.size + 1 := hb; omega)))
  have Hw5 := Lib.hid ((Hv5.out.upd' Hu9.out (fun b hb e => by have e2 : b = w.heap.size + 1 := e; have := hb.1; omega)).weaken (fun b hb => (show w.heap.size ≤ b from by have := hb.1; omega)))
  have Hw6 := Lib.hid ((Hv6.out.upd Hu9.out (fun b hb e => by have e2 : b = w.heap.size + 1 := e; have := hb.1; omega)).weaken (fun b hb => (show w.heap.size ≤ b from by have := hb.1; omega)))
  clear hblk hq
  have hC9 := HQu.out _ _ _ hC3 Hu9.out (fun b hb => by have e2 : b = w.heap.size + 1 := hb; have := hzw; omega)
  go_wp2_with fail
  first | refine ⟨by kernel_rfl, ?_⟩ | refine ⟨hC9, by kernel_rfl, ?_⟩ | refine wpAnyH_done (by kernel_rfl) ?_ _ | refine ⟨hC9, wpAnyH_done (by kernel_rfl) ?_ _⟩ | skip
  change Exit.then _ _ _ _ (set3 (w.heap.size + 1) (.slice a3 p.objects.length c3) (.slice a4 p.updates.length c4) (.bool p.force) x3)
  have hb9 := Hb9.out
  generalize (set3 (w.heap.size + 1) (.slice a3 p.objects.length c3) (.slice a4 p.updates.length c4) (.bool p.force) x3) = x9 at *
  clear g0 f0 g1 f1 g2 f2
  have k0 := block_cell (j := 0) hb9 rfl
  have k1 := block_cell (j := 1) hb9 rfl
  have k2 := block_cell (j := 2) hb9 rfl
  go_wp2_with fail
  refine bodyPost_ret (v := .agg #[.slice a3 p.objects.length c3, .slice a4 p.updates.length c4, .bool p.force]) (by simp [results, Tryz.results16, go_sem]; simp [k0, k1, k2] <;> rfl) rfl ?_
  exact ⟨_, _, rfl, Hw5.out, Hw6.out, HB9.out⟩
 ·obtain rfl : j = 3 := by simpa using hj
  refine Or.inl ?_
  have hq0 := lt_of_block HZ0.out
  have hC1 := hQ.alloc _ (.cells #[] 107) hC0
  have HO := Lib.hid (ownU_empty x0)
  have HZ1 := Lib.hid (show (x0.alloc (.cells #[] 107)).heap[w.heap.size + 1]? = some (.cells #[.slice none 0 0, .slice none 0 0, .bool false] 26 (0, 0)) from (Below.heap_alloc _ _ _ (lt_of_block HZ0.out)).trans HZ0.out)
  have hz1 : x0.heap.size + 1 = (x0.alloc (.cells #[] 107)).heap.size := by simp
  have hbA : Below x0.heap.size x0 (x0.alloc (.cells #[] 107)) := (Below.refl _ _).alloc (Nat.le_refl _) _
  replace HO := Lib.hid (show OwnU (w.heap.size + 2) _ _ [] from ⟨own_mono HO.out.1 (show w.heap.size + 2 ≤ x0.heap.size by omega), HO.out.2⟩)
  clear hbA
  go_simp
  generalize x0.heap.size = E at *
  generalize x0.alloc (.cells #[] 107) = x1 at *
  refine wpAnyH_all (rs := [2]) (by kernel_rfl) (by simp) (fun j hj => ?_)
  obtain rfl : j = 2 := by simpa using hj
  refine Or.inl ?_
  go_wp2_with fail
  refine (HCs.out _ hC1).mono ?_
  rintro e x2 ⟨q3, rfl, hv3, hb3⟩
  obtain ⟨a3, c3, rfl⟩ := hv3.vshape
  have hC2 := hQn _ _ hC1 hb3
  have hz2 := hb3.size
  have Hv3 := Lib.hid (hv3.lt)
  have HZ2 := Lib.hid (blk_below HZ1.out hb3)
  have Hv4 := Lib.hid (show StoreV (fun b => w.heap.size + 2 ≤ b ∧ b < x2.heap.size ∧ b ≠ E) _ (.slice a3 p.objects.length c3) p.objects from Hv3.out.weaken fun b hb => ⟨by omega, by omega, by omega⟩)
  replace HO := Lib.hid (HO.out.below hb3)
  clear hv3 hb3 Hv3
  go_simp
  refine wpAnyH_all (rs := [6]) (by kernel_rfl) (by simp) (fun j hj => ?_)
  obtain rfl : j = 6 := by simpa using hj
  refine Or.inl ?_
  have hq2 := lt_of_block HZ2.out
  obtain ⟨v4, x3, hr4, hO4, hu4⟩ := appendMvs_row (l := []) 24 HO.out (HBu.out _ hC2) (by have := Hby.out; simp; omega) (show w.heap.size + 2 ≤ x2.heap.size by omega)
  have hC3 := HQu.out _ _ _ hC2 hu4 (fun b hb => by have := (HO.out.block hb).1; have := hzw; omega)
  have HZ3 := Lib.hid (hu4.blk HZ2.out (fun e => by have := (HO.out.block e).1; omega))
  have Hv5 := Lib.hid (Hv4.out.upd' hu4 (fun b hb e => hb.2.2 (by have e2 := e; simp [Value.ownBlock] at e2; omega)))
  have hz3 := hu4.size
  rw [List.nil_append] at hO4
  obtain ⟨a4, c4, rfl⟩ := hO4.shape
  have Hv6 := Lib.hid ((hO4.mvs Hby.out).weaken (fun b hb => (show w.heap.size + 2 ≤ b ∧ b < x3.heap.size from hO4.block hb.2)))
  clear hO4 hu4
  refine wp_append_run (.tmp 6) (.tmp 8) 24 (by rfl) _ _ _ (by rfl) (by rfl) hr4 ?_
  simp only [Act.put, List.getElem_toArray, List.getElem_cons_zero, List.getElem_cons_succ, List.setIfInBounds_toArray, List.set_cons_zero, List.set_cons_succ]
  refine ⟨hC3, ?_⟩
  clear hr4 HO Hv4
  refine wpAnyH_take (i := 9) (v := .agg #[.slice a3 p.objects.length c3, .slice a4 p.updates.length c4, .bool p.force]) rfl (by kernel_rfl) (by kernel_rfl) (by kernel_rfl) (fun _ _ _ h => h) (Or.inl ⟨by rfl, fun w hSw => ?_⟩) hC3 ?_
  ·go_simp
  simp only [Act.put, List.getElem_toArray, List.getElem_cons_zero, List.getElem_cons_succ, List.setIfInBounds_toArray, List.set_cons_zero, List.set_cons_succ]
  refine wpAnyH_all (rs := [10]) (by kernel_rfl) (by simp) (fun j hj => ?_)
  obtain rfl : j = 10 := by simpa using hj
  refine Or.inl ?_
  have hq := lt_of_block HZ3.out
  have hblk := HZ3.out
  have g0 := block_cell (j := 0) hblk rfl
  have f0 := block_free (j := 0) hblk
  have g1 := block_cell (j := 1) hblk rfl
  have f1 := block_free (j := 1) hblk
  have g2 := block_cell (j := 2) hblk rfl
  have f2 := block_free (j := 2) hblk
  have Hb9 := Lib.hid (set3_is (v0 := .slice a3 p.objects.length c3) (v1 := .slice a4 p.updates.length c4) (v2 := .bool p.force) hblk)
  have Hu9 := Lib.hid (set3_upd (w.heap.size + 1) (.slice a3 p.objects.length c3) (.slice a4 p.updates.length c4) (.bool p.force) x3)
  have HB9 := Lib.hid ((HB.out _ hC3).trans (Hu9.out.below (B := w.heap.size) (by omega) (fun b hb => by have e2 : b = w.heap.size + 1 := hb; omega)))
  have Hw5 := Lib.hid ((Hv5.out.upd' Hu9.out (fun b hb e => by have e2 : b = w.heap.size + 1 := e; have := hb.1; omega)).weaken (fun b hb => (show w.heap.size ≤ b from by have := hb.1; omega)))
  have Hw6 := Lib.hid ((Hv6.out.upd Hu9.out (fun b hb e => by have e2 : b = w.heap.size + 1 := e; have := hb.1; omega)).weaken (fun b hb => (show w.heap.size ≤ b from by have := hb.1; omega)))
  clear hblk hq
  have hC9 := HQu.out _ _ _ hC3 Hu9.out (fun b hb => by have e2 : b = w.heap.size + 1 := hb; have := hzw; omega)
  go_wp2_with fail
  first | refine ⟨by kernel_rfl, ?_⟩ | refine ⟨hC9, by kernel_rfl, ?_⟩ | refine wpAnyH_done (by kernel_rfl) ?_ _ | refine ⟨hC9, wpAnyH_done (by kernel_rfl) ?_ _⟩ | skip
  change Exit.then _ _ _ _ (set3 (w.heap.size + 1) (.slice a3 p.objects.length c3) (.slice a4 p.updates.length c4) (.bool p.force) x3)
  have hb9 := Hb9.out
  generalize (set3 (w.heap.size + 1) (.slice a3 p.objects.length c3) (.slice a4 p.updates.length c4) (.bool p.force) x3) = x9 at *
  clear g0 f0 g1 f1 g2 f2
  have k0 := block_cell (j := 0) hb9 rfl
  have k1 := block_cell (j := 1) hb9 rfl
  have k2 := block_cell (j := 2) hb9 rfl
  go_wp2_with fail
  refine bodyPost_ret (v := .agg #[.slice a3 p.objects.length c3, .slice a4 p.updates.length c4, .bool p.force]) (by simp [results, Tryz.results16, go_sem]; simp [k0, k1, k2] <;> rfl) rfl ?_
  exact ⟨_, _, rfl, Hw5.out, Hw6.out, HB9.out⟩
set_option maxRecDepth 100000 in
set_option maxHeartbeats 4000000 in
theorem copiedReplica_any (r : Rep) (sv rv ov uv : Value) (S : Nat → Prop) (w : World) (h : RepIs S w r sv rv ov uv) :
  Calls Tryz.prog 15 #[repV r sv rv ov uv] w fun e w' => ∃ s q o u, e = .returned (repV r s q o u) ∧ RepIs (fun b => w.heap.size ≤ b) w' r s q o u ∧ Below w.heap.size w w' := by
 obtain ⟨sa, sc, rfl⟩ := h.store.vshape
 obtain ⟨⟨ra, rc⟩, rfl⟩ := h.refs.shape
 obtain ⟨oa, oc, rfl⟩ := h.objs.vshape
 obtain ⟨⟨ua, uc⟩, rfl⟩ := h.upds.shape
 have H := Lib.hid h
 have Hby := Lib.hid h.refs.bytes
 obtain ⟨Q, hQ, hQ0, hQu0⟩ := cls_new (w.alloc (.cells #[.slice sa r.store.length sc, .slice ra r.refs.length rc, .int .i64 r.gen, .int .i64 r.phase, .slice oa r.pend.objects.length oc, .slice ua r.pend.updates.length uc, .bool r.pend.force] 28))
 have hQ1 := hQ.alloc _ (.cells #[.slice none 0 0, .slice none 0 0, .int .i64 0, .int .i64 0, .slice none 0 0, .slice none 0 0, .bool false] 28) hQ0
 have hQb := hQ.below
 have hQn := hQ.next
 have HQu := Lib.hid hQu0
 clear hQu0
 have hzw : (w.alloc (.cells #[.slice sa r.store.length sc, .slice ra r.refs.length rc, .int .i64 r.gen, .int .i64 r.phase, .slice oa r.pend.objects.length oc, .slice ua r.pend.updates.length uc, .bool r.pend.force] 28)).heap.size = w.heap.size + 1 := by simp
 have hbw : Below w.heap.size w (w.alloc (.cells #[.slice sa r.store.length sc, .slice ra r.refs.length rc, .int .i64 r.gen, .int .i64 r.phase, .slice oa r.pend.objects.length oc, .slice ua r.pend.updates.length uc, .bool r.pend.force] 28)) := (Below.refl _ _).alloc (Nat.le_refl _) _
 have HX1 := Lib.hid (show (w.alloc (.cells #[.slice sa r.store.length sc, .slice ra r.refs.length rc, .int .i64 r.gen, .int .i64 r.phase, .slice oa r.pend.objects.length oc, .slice ua r.pend.updates.length uc, .bool r.pend.force] 28)).heap[w.heap.size]? = some (.cells #[.slice sa r.store.length sc, .slice ra r.refs.length rc, .int .i64 r.gen, .int .i64 r.phase, .slice oa r.pend.objects.length oc, .slice ua r.pend.updates.length uc, .bool r.pend.force] 28 (0, 0)) from heap_alloc_new w _)
 have HX2 := Lib.hid (show ((w.alloc (.cells #[.slice sa r.store.length sc, .slice ra r.refs.length rc, .int .i64 r.gen, .int .i64 r.phase, .slice oa r.pend.objects.length oc, .slice ua r.pend.updates.length uc, .bool r.pend.force] 28)).alloc (.cells #[.slice none 0 0, .slice none 0 0, .int .i64 0, .int .i64 0, .slice none 0 0, .slice none 0 0, .bool false] 28)).heap[w.heap.size + 1]? = some (.cells #[.slice none 0 0, .slice none 0 0, .int .i64 0, .int .i64 0, .slice none 0 0, .slice none 0 0, .bool false] 28 (0, 0)) from by have := heap_alloc_new (w.alloc (.cells #[.slice sa r.store.length sc, .slice ra r.refs.length rc, .int .i64 r.gen, .int .i64 r.phase, .slice oa r.pend.objects.length oc, .slice ua r.pend.updates.length uc, .bool r.pend.force] 28)) (.cells #[.slice none 0 0, .slice none 0 0, .int .i64 0, .int .i64 0, .slice none 0 0, .slice none 0 0, .bool false] 28); simpa using this)
 have HB := Lib.hid (fun x (hx : In Q x) => hbw.trans ((hQb _ hx).mono (by rw [hzw]; omega)))
 have d0 := fun x (hx : In Q x) => below_cell (hQb _ hx) (block_cell (j := 0) HX1.out rfl)
 have d1 := fun x (hx : In Q x) => below_cell (hQb _ hx) (block_cell (j := 1) HX1.out rfl)
 have d2 := fun x (hx : In Q x) => below_cell (hQb _ hx) (block_cell (j := 2) HX1.out rfl)
 have d3 := fun x (hx : In Q x) => below_cell (hQb _ hx) (block_cell (j := 3) HX1.out rfl)
 have d4 := fun x (hx : In Q x) => below_cell (hQb _ hx) (block_cell (j := 4) HX1.out rfl)
 have d5 := fun x (hx : In Q x) => below_cell (hQb _ hx) (block_cell (j := 5) HX1.out rfl)
 have d6 := fun x (hx : In Q x) => below_cell (hQb _ hx) (block_cell (j := 6) HX1.out rfl)
 have HCs := Lib.hid (fun x (hx : In Q x) => copiedStore_any r.store _ S x (H.out.store.below (HB.out _ hx)))
 have HBu := Lib.hid (fun x (hx : In Q x) => H.out.refs.below (HB.out _ hx))
 have HCp := Lib.hid (fun x (hx : In Q x) => copiedPush_any r.pend _ _ S S x (H.out.objs.below (HB.out _ hx)) (H.out.upds.below (HB.out _ hx)))
 clear h
 clear hbw
 simp only [repV]
 go_enter Tryz.func15, Tryz.ntmps15
 go_upto_region 1 with fail
 have HZ0 := Lib.hid (show ((w.alloc (.cells #[.slice sa r.store.length sc, .slice ra r.refs.length rc, .int .i64 r.gen, .int .i64 r.phase, .slice oa r.pend.objects.length oc, .slice ua r.pend.updates.length uc, .bool r.pend.force] 28)).alloc (.cells #[.slice none 0 0, .slice none 0 0, .int .i64 0, .int .i64 0, .slice none 0 0, .slice none 0 0, .bool false] 28)).drew.heap[w.heap.size + 1]? = some (.cells #[.slice none 0 0, .slice none 0 0, .int .i64 0, .int .i64 0, .slice none 0 0, .slice none 0 0, .bool false] 28 (0, 0)) from HX2.out)
 clear HX1 HX2 hQ0
 generalize hw1 : ((w.alloc (.cells #[.slice sa r.store.length sc, .slice ra r.refs.length rc, .int .i64 r.gen, .int .i64 r.phase, .slice oa r.pend.objects.length oc, .slice ua r.pend.updates.length uc, .bool r.pend.force] 28)).alloc (.cells #[.slice none 0 0, .slice none 0 0, .int .i64 0, .int .i64 0, .slice none 0 0, .slice none 0 0, .bool false] 28)) = w1 at *
 clear hw1
 refine wp_region_held (S := In Q) (by kernel_rfl) ?_
 change wpAnyH _ _ _ _ _ _ _ _ (World.drew _)
 have hC0 := hQ.drew _ hQ1
 generalize w1.drew = x0 at hC0 HZ0 ⊢
 refine wpAnyH_take (i := 0) (v := .pointer (some ⟨w.heap.size, 0, none⟩)) rfl (by kernel_rfl) (by kernel_rfl) (by kernel_rfl) (fun _ _ _ h => h) (Or.inl ⟨by rfl, fun w hSw => ?_⟩) hC0 ?_
 ·go_simp
 simp only [Act.put, List.getElem_toArray, List.getElem_cons_zero, List.getElem_cons_succ, List.setIfInBounds_toArray, List.set_cons_zero, List.set_cons_succ]
 refine wpAnyH_take (i := 1) (v := .slice sa r.store.length sc) rfl (by kernel_rfl) (by kernel_rfl) (by kernel_rfl) (fun _ _ _ h => h) (Or.inl ⟨by rfl, fun w hSw => ?_⟩) hC0 ?_
 ·have yy := d0 _ hSw; go_simp
 simp only [Act.put, List.getElem_toArray, List.getElem_cons_zero, List.getElem_cons_succ, List.setIfInBounds_toArray, List.set_cons_zero, List.set_cons_succ]
 refine wpAnyH_take (i := 4) (v := .pointer (some ⟨w.heap.size, 1, none⟩)) rfl (by kernel_rfl) (by kernel_rfl) (by kernel_rfl) (fun _ _ _ h => h) (Or.inl ⟨by rfl, fun w hSw => ?_⟩) hC0 ?_
 ·go_simp
 simp only [Act.put, List.getElem_toArray, List.getElem_cons_zero, List.getElem_cons_succ, List.setIfInBounds_toArray, List.set_cons_zero, List.set_cons_succ]
 refine wpAnyH_take (i := 5) (v := .slice ra r.refs.length rc) rfl (by kernel_rfl) (by kernel_rfl) (by kernel_rfl) (fun _ _ _ h => h) (Or.inl ⟨by rfl, fun w hSw => ?_⟩) hC0 ?_
 ·have yy := d1 _ hSw; go_simp
 simp only [Act.put, List.getElem_toArray, List.getElem_cons_zero, List.getElem_cons_succ, List.setIfInBounds_toArray, List.set_cons_zero, List.set_cons_succ]
 refine wpAnyH_take (i := 7) (v := .pointer (some ⟨w.heap.size, 2, none⟩)) rfl (by kernel_rfl) (by kernel_rfl) (by kernel_rfl) (fun _ _ _ h => h) (Or.inl ⟨by rfl, fun w hSw => ?_⟩) hC0 ?_
 ·go_simp
 simp only [Act.put, List.getElem_toArray, List.getElem_cons_zero, List.getElem_cons_succ, List.setIfInBounds_toArray, List.set_cons_zero, List.set_cons_succ]
 refine wpAnyH_take (i := 8) (v := .int .i64 r.gen) rfl (by kernel_rfl) (by kernel_rfl) (by kernel_rfl) (fun _ _ _ h => h) (Or.inl ⟨by rfl, fun w hSw => ?_⟩) hC0 ?_
 ·have yy := d2 _ hSw; go_simp
 simp only [Act.put, List.getElem_toArray, List.getElem_cons_zero, List.getElem_cons_succ, List.setIfInBounds_toArray, List.set_cons_zero, List.set_cons_succ]
 refine wpAnyH_take (i := 9) (v := .pointer (some ⟨w.heap.size, 3, none⟩)) rfl (by kernel_rfl) (by kernel_rfl) (by kernel_rfl) (fun _ _ _ h => h) (Or.inl ⟨by rfl, fun w hSw => ?_⟩) hC0 ?_
 ·go_simp
 simp only [Act.put, List.getElem_toArray, List.getElem_cons_zero, List.getElem_cons_succ, List.setIfInBounds_toArray, List.set_cons_zero, List.set_cons_succ]
 refine wpAnyH_take (i := 10) (v := .int .i64 r.phase) rfl (by kernel_rfl) (by kernel_rfl) (by kernel_rfl) (fun _ _ _ h => h) (Or.inl ⟨by rfl, fun w hSw => ?_⟩) hC0 ?_
 ·have yy := d3 _ hSw; go_simp
 simp only [Act.put, List.getElem_toArray, List.getElem_cons_zero, List.getElem_cons_succ, List.setIfInBounds_toArray, List.set_cons_zero, List.set_cons_succ]
 refine wpAnyH_take (i := 11) (v := .pointer (some ⟨w.heap.size, 4, none⟩)) rfl (by kernel_rfl) (by kernel_rfl) (by kernel_rfl) (fun _ _ _ h => h) (Or.inl ⟨by rfl, fun w hSw => ?_⟩) hC0 ?_
 ·go_simp
 simp only [Act.put, List.getElem_toArray, List.getElem_cons_zero, List.getElem_cons_succ, List.setIfInBounds_toArray, List.set_cons_zero, List.set_cons_succ]
 refine wpAnyH_take (i := 12) (v := .agg #[.slice oa r.pend.objects.length oc, .slice ua r.pend.updates.length uc, .bool r.pend.force]) rfl (by kernel_rfl) (by kernel_rfl) (by kernel_rfl) (fun _ _ _ h => h) (Or.inl ⟨by rfl, fun w hSw => ?_⟩) hC0 ?_
 ·have y4 := d4 _ hSw; have y5 := d5 _ hSw; have y6 := d6 _ hSw; go_simp
 simp only [Act.put, List.getElem_toArray, List.getElem_cons_zero, List.getElem_cons_succ, List.setIfInBounds_toArray, List.set_cons_zero, List.set_cons_succ]
 refine wpAnyH_all (rs := [2, 3]) (by kernel_rfl) (by simp) (fun j hj => ?_)
 rcases List.mem_cons.1 hj with rfl | hj
 ·refine Or.inl ?_
  have hq0 := lt_of_block HZ0.out
  go_wp2_with fail
  refine (HCs.out _ hC0).mono ?_
  rintro e x1 ⟨q3, rfl, hv3, hb3⟩
  obtain ⟨a3, c3, rfl⟩ := hv3.vshape
  have hC1 := hQn _ _ hC0 hb3
  have hz1 := hb3.size
  have Hv3 := Lib.hid (hv3.lt)
  have HZ1 := Lib.hid (blk_below HZ0.out hb3)
  clear hv3 hb3
  go_simp
  refine wpAnyH_all (rs := [3]) (by kernel_rfl) (by simp) (fun j hj => ?_)
  obtain rfl : j = 3 := by simpa using hj
  refine Or.inl ?_
  have hC2 := hQ.alloc _ (.cells #[] 62) hC1
  have HO := Lib.hid (ownR_empty x1)
  have HZ2 := Lib.hid (show (x1.alloc (.cells #[] 62)).heap[w.heap.size + 1]? = some (.cells #[.slice none 0 0, .slice none 0 0, .int .i64 0, .int .i64 0, .slice none 0 0, .slice none 0 0, .bool false] 28 (0, 0)) from (Below.heap_alloc _ _ _ (lt_of_block HZ1.out)).trans HZ1.out)
  have hz2 : x1.heap.size + 1 = (x1.alloc (.cells #[] 62)).heap.size := by simp
  have hbA : Below x1.heap.size x1 (x1.alloc (.cells #[] 62)) := (Below.refl _ _).alloc (Nat.le_refl _) _
  have Hv4 := Lib.hid (show StoreV (fun b => w.heap.size + 2 ≤ b ∧ b < (x1.alloc (.cells #[] 62)).heap.size ∧ b ≠ x1.heap.size) _ (.slice a3 r.store.length c3) r.store from (Hv3.out.below hbA).weaken fun b hb => ⟨by omega, by omega, by omega⟩)
  replace HO := Lib.hid (show OwnR (w.heap.size + 2) _ _ [] from ⟨own_mono HO.out.1 (show w.heap.size + 2 ≤ x1.heap.size by omega), HO.out.2⟩)
  clear hbA Hv3
  go_simp
  generalize x1.heap.size = E at *
  generalize x1.alloc (.cells #[] 62) = x2 at *
  refine wpAnyH_all (rs := [6]) (by kernel_rfl) (by simp) (fun j hj => ?_)
  obtain rfl : j = 6 := by simpa using hj
  refine Or.inl ?_
  have hq2 := lt_of_block HZ2.out
  obtain ⟨v4, x3, hr4, hO4, hu4⟩ := appendRefs_row (l := []) 23 HO.out (HBu.out _ hC2) (by have := Hby.out; simp; omega) (show w.heap.size + 2 ≤ x2.heap.size by omega)
  have hC3 := HQu.out _ _ _ hC2 hu4 (fun b hb => by have := (HO.out.block hb).1; have := hzw; omega)
  have HZ3 := Lib.hid (hu4.blk HZ2.out (fun e => by have := (HO.out.block e).1; omega))
  have Hv5 := Lib.hid (Hv4.out.upd' hu4 (fun b hb e => hb.2.2 (by have e2 := e; simp [Value.ownBlock] at e2; omega)))
  have hz3 := hu4.size
  rw [List.nil_append] at hO4
  obtain ⟨a4, c4, rfl⟩ := hO4.shape
  have Hv6 := Lib.hid ((hO4.refs Hby.out).weaken (fun b hb => (show w.heap.size + 2 ≤ b ∧ b < x3.heap.size from hO4.block hb.2)))
  clear hO4 hu4
  refine wp_append_run (.tmp 6) (.tmp 8) 23 (by rfl) _ _ _ (by rfl) (by rfl) hr4 ?_
  simp only [Act.put, List.getElem_toArray, List.getElem_cons_zero, List.getElem_cons_succ, List.setIfInBounds_toArray, List.set_cons_zero, List.set_cons_succ]
  refine ⟨hC3, ?_⟩
  clear hr4 HO Hv4
  refine wpAnyH_all (rs := [13]) (by kernel_rfl) (by simp) (fun j hj => ?_)
  obtain rfl : j = 13 := by simpa using hj
  refine Or.inl ?_
  have hp3 := HCp.out _ hC3
  go_wp2_with fail
  refine hp3.mono ?_
  rintro e x4 ⟨q7, u7, rfl, hv7, hv8, hb7⟩
  obtain ⟨a7, c7, rfl⟩ := hv7.vshape
  obtain ⟨⟨a8, c8⟩, rfl⟩ := hv8.shape
  have hC4 := hQn _ _ hC3 hb7
  have hq3 := lt_of_block HZ3.out
  have HZ4 := Lib.hid (blk_below HZ3.out hb7)
  have hz4 := hb7.size
  have Hv7 := Lib.hid (show StoreV (fun b => w.heap.size + 2 ≤ b) x4 _ _ from hv7.weaken fun b hb => by omega)
  have Hv8 := Lib.hid (show MvsV (fun b => w.heap.size + 2 ≤ b) x4 _ _ from hv8.weaken fun b hb => by omega)
  replace Hv5 := Lib.hid (Hv5.out.below hb7)
  replace Hv6 := Lib.hid (Hv6.out.below hb7)
  clear hv7 hv8 hb7 hp3
  go_simp
  refine wpAnyH_take (i := 14) (v := .agg #[.slice a3 r.store.length c3, .slice a4 r.refs.length c4, .int .i64 r.gen, .int .i64 r.phase, .slice a7 r.pend.objects.length c7, .slice a8 r.pend.updates.length c8, .bool r.pend.force]) rfl (by kernel_rfl) (by kernel_rfl) (by kernel_rfl) (fun _ _ _ h => h) (Or.inl ⟨by rfl, fun w hSw => ?_⟩) hC4 ?_
  ·go_simp
  simp only [Act.put, List.getElem_toArray, List.getElem_cons_zero, List.getElem_cons_succ, List.setIfInBounds_toArray, List.set_cons_zero, List.set_cons_succ]
  refine wpAnyH_all (rs := [15]) (by kernel_rfl) (by simp) (fun j hj => ?_)
  obtain rfl : j = 15 := by simpa using hj
  refine Or.inl ?_
  have hq := lt_of_block HZ4.out
  have hblk := HZ4.out
  have g0 := block_cell (j := 0) hblk rfl
  have f0 := block_free (j := 0) hblk
  have g1 := block_cell (j := 1) hblk rfl
  have f1 := block_free (j := 1) hblk
  have g2 := block_cell (j := 2) hblk rfl
  have f2 := block_free (j := 2) hblk
  have g3 := block_cell (j := 3) hblk rfl
  have f3 := block_free (j := 3) hblk
  have g4 := block_cell (j := 4) hblk rfl
  have f4 := block_free (j := 4) hblk
  have g5 := block_cell (j := 5) hblk rfl
  have f5 := block_free (j := 5) hblk
  have g6 := block_cell (j := 6) hblk rfl
  have f6 := block_free (j := 6) hblk
  have Hb9 := Lib.hid (set7_is (v0 := .slice a3 r.store.length c3) (v1 := .slice a4 r.refs.length c4) (v2 := .int .i64 r.gen) (v3 := .int .i64 r.phase) (v4 := .slice a7 r.pend.objects.length c7) (v5 := .slice a8 r.pend.updates.length c8) (v6 := .bool r.pend.force) hblk)
  have Hu9 := Lib.hid (set7_upd (w.heap.size + 1) (.slice a3 r.store.length c3) (.slice a4 r.refs.length c4) (.int .i64 r.gen) (.int .i64 r.phase) (.slice a7 r.pend.objects.length c7) (.slice a8 r.pend.updates.length c8) (.bool r.pend.force) x4)
  have HB9 := Lib.hid ((HB.out _ hC4).trans (Hu9.out.below (B := w.heap.size) (by omega) (fun b hb => by have e2 : b = w.heap.size + 1 := hb; omega)))
  have Hw5 := Lib.hid ((Hv5.out.upd' Hu9.out (fun b hb e => by have e2 : b = w.heap.size + 1 := e; have := hb.1; omega)).weaken (fun b hb => (show w.heap.size ≤ b from by have := hb.1; omega)))
  have Hw6 := Lib.hid ((Hv6.out.upd Hu9.out (fun b hb e => by have e2 : b = w.heap.size + 1 := e; have := hb.1; omega)).weaken (fun b hb => (show w.heap.size ≤ b from by have := hb.1; omega)))
  have Hw7 := Lib.hid ((Hv7.out.upd' Hu9.out (fun b hb e => by have e2 : b = w.heap.size + 1 := e; omega)).weaken (fun b hb => (show w.heap.size ≤ b from by omega)))
  have Hw8 := Lib.hid ((Hv8.out.upd Hu9.out (fun b hb e => by have e2 : b = w.heap.size + 1 := e; omega)).weaken (fun b hb => (show w.heap.size ≤ b from by omega)))
  clear hblk hq
  have hC9 := HQu.out _ _ _ hC4 Hu9.out (fun b hb => by have e2 : b = w.heap.size + 1 := hb; have := hzw; omega)
  go_wp2_with fail
  first | refine ⟨by kernel_rfl, ?_⟩ | refine ⟨hC9, by kernel_rfl, ?_⟩ | refine wpAnyH_done (by kernel_rfl) ?_ _ | refine ⟨hC9, wpAnyH_done (by kernel_rfl) ?_ _⟩ | skip
  change Exit.then _ _ _ _ (set7 (w.heap.size + 1) (.slice a3 r.store.length c3) (.slice a4 r.refs.length c4) (.int .i64 r.gen) (.int .i64 r.phase) (.slice a7 r.pend.objects.length c7) (.slice a8 r.pend.updates.length c8) (.bool r.pend.force) x4)
  have hb9 := Hb9.out
  generalize (set7 (w.heap.size + 1) (.slice a3 r.store.length c3) (.slice a4 r.refs.length c4) (.int .i64 r.gen) (.int .i64 r.phase) (.slice a7 r.pend.objects.length c7) (.slice a8 r.pend.updates.length c8) (.bool r.pend.force) x4) = x9 at *
  clear g0 f0 g1 f1 g2 f2 g3 f3 g4 f4 g5 f5 g6 f6
  have k0 := block_cell (j := 0) hb9 rfl
  have k1 := block_cell (j := 1) hb9 rfl
  have k2 := block_cell (j := 2) hb9 rfl
  have k3 := block_cell (j := 3) hb9 rfl
  have k4 := block_cell (j := 4) hb9 rfl
  have k5 := block_cell (j := 5) hb9 rfl
  have k6 := block_cell (j := 6) hb9 rfl
  go_wp2_with fail
  refine bodyPost_ret (v := .agg #[.slice a3 r.store.length c3, .slice a4 r.refs.length c4, .int .i64 r.gen, .int .i64 r.phase, .slice a7 r.pend.objects.length c7, .slice a8 r.pend.updates.length c8, .bool r.pend.force]) (by simp [results, Tryz.results15, go_sem]; simp [k0, k1, k2, k3, k4, k5, k6] <;> rfl) rfl ?_
  exact ⟨_, _, _, _, rfl, ⟨Hw5.out, Hw6.out, Hw7.out, Hw8.out, H.out.gen, H.out.phase⟩, HB9.out⟩
 ·obtain rfl : j = 3 := by simpa using hj
  refine Or.inl ?_
  have hq0 := lt_of_block HZ0.out
  have hC1 := hQ.alloc _ (.cells #[] 62) hC0
  have HO := Lib.hid (ownR_empty x0)
  have HZ1 := Lib.hid (show (x0.alloc (.cells #[] 62)).heap[w.heap.size + 1]? = some (.cells #[.slice none 0 0, .slice none 0 0, .int .i64 0, .int .i64 0, .slice none 0 0, .slice none 0 0, .bool false] 28 (0, 0)) from (Below.heap_alloc _ _ _ (lt_of_block HZ0.out)).trans HZ0.out)
  have hz1 : x0.heap.size + 1 = (x0.alloc (.cells #[] 62)).heap.size := by simp
  have hbA : Below x0.heap.size x0 (x0.alloc (.cells #[] 62)) := (Below.refl _ _).alloc (Nat.le_refl _) _
  replace HO := Lib.hid (show OwnR (w.heap.size + 2) _ _ [] from ⟨own_mono HO.out.1 (show w.heap.size + 2 ≤ x0.heap.size by omega), HO.out.2⟩)
  clear hbA
  go_simp
  generalize x0.heap.size = E at *
  generalize x0.alloc (.cells #[] 62) = x1 at *
  refine wpAnyH_all (rs := [2]) (by kernel_rfl) (by simp) (fun j hj => ?_)
  obtain rfl : j = 2 := by simpa using hj
  refine Or.inl ?_
  go_wp2_with fail
  refine (HCs.out _ hC1).mono ?_
  rintro e x2 ⟨q3, rfl, hv3, hb3⟩
  obtain ⟨a3, c3, rfl⟩ := hv3.vshape
  have hC2 := hQn _ _ hC1 hb3
  have hz2 := hb3.size
  have Hv3 := Lib.hid (hv3.lt)
  have HZ2 := Lib.hid (blk_below HZ1.out hb3)
  have Hv4 := Lib.hid (show StoreV (fun b => w.heap.size + 2 ≤ b ∧ b < x2.heap.size ∧ b ≠ E) _ (.slice a3 r.store.length c3) r.store from Hv3.out.weaken fun b hb => ⟨by omega, by omega, by omega⟩)
  replace HO := Lib.hid (HO.out.below hb3)
  clear hv3 hb3 Hv3
  go_simp
  refine wpAnyH_all (rs := [6]) (by kernel_rfl) (by simp) (fun j hj => ?_)
  obtain rfl : j = 6 := by simpa using hj
  refine Or.inl ?_
  have hq2 := lt_of_block HZ2.out
  obtain ⟨v4, x3, hr4, hO4, hu4⟩ := appendRefs_row (l := []) 23 HO.out (HBu.out _ hC2) (by have := Hby.out; simp; omega) (show w.heap.size + 2 ≤ x2.heap.size by omega)
  have hC3 := HQu.out _ _ _ hC2 hu4 (fun b hb => by have := (HO.out.block hb).1; have := hzw; omega)
  have HZ3 := Lib.hid (hu4.blk HZ2.out (fun e => by have := (HO.out.block e).1; omega))
  have Hv5 := Lib.hid (Hv4.out.upd' hu4 (fun b hb e => hb.2.2 (by have e2 := e; simp [Value.ownBlock] at e2; omega)))
  have hz3 := hu4.size
  rw [List.nil_append] at hO4
  obtain ⟨a4, c4, rfl⟩ := hO4.shape
  have Hv6 := Lib.hid ((hO4.refs Hby.out).weaken (fun b hb => (show w.heap.size + 2 ≤ b ∧ b < x3.heap.size from hO4.block hb.2)))
  clear hO4 hu4
  refine wp_append_run (.tmp 6) (.tmp 8) 23 (by rfl) _ _ _ (by rfl) (by rfl) hr4 ?_
  simp only [Act.put, List.getElem_toArray, List.getElem_cons_zero, List.getElem_cons_succ, List.setIfInBounds_toArray, List.set_cons_zero, List.set_cons_succ]
  refine ⟨hC3, ?_⟩
  clear hr4 HO Hv4
  refine wpAnyH_all (rs := [13]) (by kernel_rfl) (by simp) (fun j hj => ?_)
  obtain rfl : j = 13 := by simpa using hj
  refine Or.inl ?_
  have hp3 := HCp.out _ hC3
  go_wp2_with fail
  refine hp3.mono ?_
  rintro e x4 ⟨q7, u7, rfl, hv7, hv8, hb7⟩
  obtain ⟨a7, c7, rfl⟩ := hv7.vshape
  obtain ⟨⟨a8, c8⟩, rfl⟩ := hv8.shape
  have hC4 := hQn _ _ hC3 hb7
  have hq3 := lt_of_block HZ3.out
  have HZ4 := Lib.hid (blk_below HZ3.out hb7)
  have hz4 := hb7.size
  have Hv7 := Lib.hid (show StoreV (fun b => w.heap.size + 2 ≤ b) x4 _ _ from hv7.weaken fun b hb => by omega)
  have Hv8 := Lib.hid (show MvsV (fun b => w.heap.size + 2 ≤ b) x4 _ _ from hv8.weaken fun b hb => by omega)
  replace Hv5 := Lib.hid (Hv5.out.below hb7)
  replace Hv6 := Lib.hid (Hv6.out.below hb7)
  clear hv7 hv8 hb7 hp3
  go_simp
  refine wpAnyH_take (i := 14) (v := .agg #[.slice a3 r.store.length c3, .slice a4 r.refs.length c4, .int .i64 r.gen, .int .i64 r.phase, .slice a7 r.pend.objects.length c7, .slice a8 r.pend.updates.length c8, .bool r.pend.force]) rfl (by kernel_rfl) (by kernel_rfl) (by kernel_rfl) (fun _ _ _ h => h) (Or.inl ⟨by rfl, fun w hSw => ?_⟩) hC4 ?_
  ·go_simp
  simp only [Act.put, List.getElem_toArray, List.getElem_cons_zero, List.getElem_cons_succ, List.setIfInBounds_toArray, List.set_cons_zero, List.set_cons_succ]
  refine wpAnyH_all (rs := [15]) (by kernel_rfl) (by simp) (fun j hj => ?_)
  obtain rfl : j = 15 := by simpa using hj
  refine Or.inl ?_
  have hq := lt_of_block HZ4.out
  have hblk := HZ4.out
  have g0 := block_cell (j := 0) hblk rfl
  have f0 := block_free (j := 0) hblk
  have g1 := block_cell (j := 1) hblk rfl
  have f1 := block_free (j := 1) hblk
  have g2 := block_cell (j := 2) hblk rfl
  have f2 := block_free (j := 2) hblk
  have g3 := block_cell (j := 3) hblk rfl
  have f3 := block_free (j := 3) hblk
  have g4 := block_cell (j := 4) hblk rfl
  have f4 := block_free (j := 4) hblk
  have g5 := block_cell (j := 5) hblk rfl
  have f5 := block_free (j := 5) hblk
  have g6 := block_cell (j := 6) hblk rfl
  have f6 := block_free (j := 6) hblk
  have Hb9 := Lib.hid (set7_is (v0 := .slice a3 r.store.length c3) (v1 := .slice a4 r.refs.length c4) (v2 := .int .i64 r.gen) (v3 := .int .i64 r.phase) (v4 := .slice a7 r.pend.objects.length c7) (v5 := .slice a8 r.pend.updates.length c8) (v6 := .bool r.pend.force) hblk)
  have Hu9 := Lib.hid (set7_upd (w.heap.size + 1) (.slice a3 r.store.length c3) (.slice a4 r.refs.length c4) (.int .i64 r.gen) (.int .i64 r.phase) (.slice a7 r.pend.objects.length c7) (.slice a8 r.pend.updates.length c8) (.bool r.pend.force) x4)
  have HB9 := Lib.hid ((HB.out _ hC4).trans (Hu9.out.below (B := w.heap.size) (by omega) (fun b hb => by have e2 : b = w.heap.size + 1 := hb; omega)))
  have Hw5 := Lib.hid ((Hv5.out.upd' Hu9.out (fun b hb e => by have e2 : b = w.heap.size + 1 := e; have := hb.1; omega)).weaken (fun b hb => (show w.heap.size ≤ b from by have := hb.1; omega)))
  have Hw6 := Lib.hid ((Hv6.out.upd Hu9.out (fun b hb e => by have e2 : b = w.heap.size + 1 := e; have := hb.1; omega)).weaken (fun b hb => (show w.heap.size ≤ b from by have := hb.1; omega)))
  have Hw7 := Lib.hid ((Hv7.out.upd' Hu9.out (fun b hb e => by have e2 : b = w.heap.size + 1 := e; omega)).weaken (fun b hb => (show w.heap.size ≤ b from by omega)))
  have Hw8 := Lib.hid ((Hv8.out.upd Hu9.out (fun b hb e => by have e2 : b = w.heap.size + 1 := e; omega)).weaken (fun b hb => (show w.heap.size ≤ b from by omega)))
  clear hblk hq
  have hC9 := HQu.out _ _ _ hC4 Hu9.out (fun b hb => by have e2 : b = w.heap.size + 1 := hb; have := hzw; omega)
  go_wp2_with fail
  first | refine ⟨by kernel_rfl, ?_⟩ | refine ⟨hC9, by kernel_rfl, ?_⟩ | refine wpAnyH_done (by kernel_rfl) ?_ _ | refine ⟨hC9, wpAnyH_done (by kernel_rfl) ?_ _⟩ | skip
  change Exit.then _ _ _ _ (set7 (w.heap.size + 1) (.slice a3 r.store.length c3) (.slice a4 r.refs.length c4) (.int .i64 r.gen) (.int .i64 r.phase) (.slice a7 r.pend.objects.length c7) (.slice a8 r.pend.updates.length c8) (.bool r.pend.force) x4)
  have hb9 := Hb9.out
  generalize (set7 (w.heap.size + 1) (.slice a3 r.store.length c3) (.slice a4 r.refs.length c4) (.int .i64 r.gen) (.int .i64 r.phase) (.slice a7 r.pend.objects.length c7) (.slice a8 r.pend.updates.length c8) (.bool r.pend.force) x4) = x9 at *
  clear g0 f0 g1 f1 g2 f2 g3 f3 g4 f4 g5 f5 g6 f6
  have k0 := block_cell (j := 0) hb9 rfl
  have k1 := block_cell (j := 1) hb9 rfl
  have k2 := block_cell (j := 2) hb9 rfl
  have k3 := block_cell (j := 3) hb9 rfl
  have k4 := block_cell (j := 4) hb9 rfl
  have k5 := block_cell (j := 5) hb9 rfl
  have k6 := block_cell (j := 6) hb9 rfl
  go_wp2_with fail
  refine bodyPost_ret (v := .agg #[.slice a3 r.store.length c3, .slice a4 r.refs.length c4, .int .i64 r.gen, .int .i64 r.phase, .slice a7 r.pend.objects.length c7, .slice a8 r.pend.updates.length c8, .bool r.pend.force]) (by simp [results, Tryz.results15, go_sem]; simp [k0, k1, k2, k3, k4, k5, k6] <;> rfl) rfl ?_
  exact ⟨_, _, _, _, rfl, ⟨Hw5.out, Hw6.out, Hw7.out, Hw8.out, H.out.gen, H.out.phase⟩, HB9.out⟩
end Go.Proofs.YtjdgpgfiomnjkaaGreatDoor
