
/- CluA: CluA, CluB, BoxR, Bag. -/
import Derived.Test.YtjdgpgfiomnjkaaGreatDoorM13
import Derived.Test.YtjdgpgfiomnjkaaGreatDoorM10
namespace Go.Proofs.YtjdgpgfiomnjkaaGreatDoor
open Go.RowKit
set_option linter.unusedVariables false
set_option linter.unusedSimpArgs false
theorem StoreV.bytes {S : Nat → Prop} {w : World} {v : Value} {l : List Obj} (h : StoreV S w v l) : l.length * 56 ≤ 140737488351232 :=
 let ⟨_, ⟨_, _, _, _, _, h3, _⟩, _⟩ := h; h3
def PshAt (S : Nat → Prop) (w : World) (p : Psh) (ov uv : Value) : Prop := StoreV S w ov p.objects ∧ MvsV S w uv p.updates
theorem PshAt.below {S : Nat → Prop} {w w' : World} {p : Psh} {ov uv : Value} (h : PshAt S w p ov uv) (hb : Below w.heap.size w w') : PshAt S w' p ov uv := ⟨h.1.below hb, h.2.below hb⟩
set_option maxRecDepth 100000 in
set_option maxHeartbeats 2000000 in
theorem pushOwn_any (p : Psh) (ov uv : Value) (S S1 : Nat → Prop) (w : World) (ho : StoreV S w ov p.objects) (hu : MvsV S1 w uv p.updates) :
  Calls Tryz.prog 78 #[pshV p ov uv] w fun e w' => RetPsh w w' e p := by
 have H := Lib.hid (And.intro ho hu)
 obtain ⟨oa, oc, rfl⟩ := ho.vshape
 obtain ⟨⟨ua, uc⟩, rfl⟩ := hu.shape
 have h56 := ho.bytes
 have h32 := hu.bytes
 clear ho hu
 simp only [pshV]
 obtain ⟨Q, hQ, hQ1, HB0⟩ := cls_allocs w [.cells #[.slice oa p.objects.length oc, .slice ua p.updates.length uc, .bool p.force] 26, .cells #[.slice none 0 0, .slice none 0 0, .bool false] 26]
 simp only [List.foldl] at hQ1
 have hQn := hQ.next
 have hQb := hQ.below
 have HZ := Lib.hid (fun x (hx : In Q x) => HB0 x hx 1 _ rfl)
 have HN := Lib.hid (fun x (hx : In Q x) => show w.heap.size + 2 ≤ x.heap.size from lt_of_block (HB0 x hx 1 _ rfl))
 have HS : ∀ x, In Q x → (fun x : World => x.cell? ⟨w.heap.size, 0, none⟩ = some (.slice oa p.objects.length oc) ∧ x.cell? ⟨w.heap.size, 1, none⟩ = some (.slice ua p.updates.length uc) ∧ x.cell? ⟨w.heap.size, 2, none⟩ = some (.bool p.force)) x := fun x hx => ⟨block_cell (j := 0) (HB0 x hx 0 _ rfl) rfl, block_cell (j := 1) (HB0 x hx 0 _ rfl) rfl, block_cell (j := 2) (HB0 x hx 0 _ rfl) rfl⟩
 have HA := Lib.hid (fun x (hx : In Q x) => storeOwn_any p.objects _ _ x (H.out.1.below (hQb _ hx)))
 have HU := Lib.hid (fun x (hx : In Q x) => cloneMvs_any p.updates _ _ x (H.out.2.below (hQb _ hx)))
 clear HB0
 go_enter Tryz.func78, Tryz.ntmps78
 go_wp2_with fail
 refine wp_region_held (S := (fun x : World => x.cell? ⟨w.heap.size, 0, none⟩ = some (.slice oa p.objects.length oc) ∧ x.cell? ⟨w.heap.size, 1, none⟩ = some (.slice ua p.updates.length uc) ∧ x.cell? ⟨w.heap.size, 2, none⟩ = some (.bool p.force))) (by kernel_rfl) ?_
 change wpAnyH _ _ _ _ _ _ _ _ (World.drew _)
 have hC0 := hQ.drew _ hQ1
 generalize ((w.alloc _).alloc _).drew = x0 at hC0 ⊢
 clear hQ1
 have hS0 := HS _ hC0
 refine wpAnyH_take (i := 0) (v := .pointer (some ⟨w.heap.size, 0, none⟩)) rfl (by kernel_rfl) (by kernel_rfl) (by kernel_rfl) (fun _ _ _ h => h) (Or.inl ⟨by rfl, fun w hSw => ?_⟩) hS0 ?_
 ·go_simp
 simp only [Act.put, List.setIfInBounds_toArray, List.set_cons_zero, List.set_cons_succ]
 refine wpAnyH_take (i := 1) (v := .slice oa p.objects.length oc) rfl (by kernel_rfl) (by kernel_rfl) (by kernel_rfl) (fun _ _ _ h => h) (Or.inl ⟨by rfl, fun w hSw => ?_⟩) hS0 ?_
 ·have yy := hSw.1; go_simp
 simp only [Act.put, List.setIfInBounds_toArray, List.set_cons_zero, List.set_cons_succ]
 refine wpAnyH_take (i := 3) (v := .pointer (some ⟨w.heap.size, 1, none⟩)) rfl (by kernel_rfl) (by kernel_rfl) (by kernel_rfl) (fun _ _ _ h => h) (Or.inl ⟨by rfl, fun w hSw => ?_⟩) hS0 ?_
 ·go_simp
 simp only [Act.put, List.setIfInBounds_toArray, List.set_cons_zero, List.set_cons_succ]
 refine wpAnyH_take (i := 4) (v := .slice ua p.updates.length uc) rfl (by kernel_rfl) (by kernel_rfl) (by kernel_rfl) (fun _ _ _ h => h) (Or.inl ⟨by rfl, fun w hSw => ?_⟩) hS0 ?_
 ·have yy := hSw.2.1; go_simp
 simp only [Act.put, List.setIfInBounds_toArray, List.set_cons_zero, List.set_cons_succ]
 refine wpAnyH_take (i := 6) (v := .pointer (some ⟨w.heap.size, 2, none⟩)) rfl (by kernel_rfl) (by kernel_rfl) (by kernel_rfl) (fun _ _ _ h => h) (Or.inl ⟨by rfl, fun w hSw => ?_⟩) hS0 ?_
 ·go_simp
 simp only [Act.put, List.setIfInBounds_toArray, List.set_cons_zero, List.set_cons_succ]
 refine wpAnyH_take (i := 7) (v := .bool p.force) rfl (by kernel_rfl) (by kernel_rfl) (by kernel_rfl) (fun _ _ _ h => h) (Or.inl ⟨by rfl, fun w hSw => ?_⟩) hS0 ?_
 ·have yy := hSw.2.2; go_simp
 simp only [Act.put, List.setIfInBounds_toArray, List.set_cons_zero, List.set_cons_succ]
 refine wpAnyH_all (rs := [2]) (by kernel_rfl) (by simp) (fun j hj => ?_)
 obtain rfl : j = 2 := by simpa using hj
 refine Or.inl ?_
 go_wp2_with fail
 refine (HA.out _ hC0).mono ?_
 rintro e x1 ⟨vA, rfl, hvA, hb2⟩
 have hC1 := hQn _ _ hC0 hb2
 have hs0 := HN.out _ hC0
 obtain ⟨a1, c1, rfl⟩ := hvA.gath.shape
 have HvA := Lib.hid ((hvA.store h56).weaken (S' := fun b => w.heap.size + 2 ≤ b) (fun b hb => by omega))
 clear hvA
 clear hb2
 have hS1 := HS _ hC1
 go_simp
 refine wpAnyH_all (rs := [5]) (by kernel_rfl) (by simp) (fun j hj => ?_)
 obtain rfl : j = 5 := by simpa using hj
 refine Or.inl ?_
 go_wp2_with fail
 refine (HU.out _ hC1).mono ?_
 rintro e x2 ⟨vU, rfl, hvU, hb5⟩
 have hC2 := hQn _ _ hC1 hb5
 have hs1 := HN.out _ hC1
 obtain ⟨a2, c2, rfl⟩ := hvU.shape
 have HvU := Lib.hid ((hvU.mvs h32).weaken (S' := fun b => w.heap.size + 2 ≤ b) (fun b hb => by omega))
 clear hvU
 replace HvA := Lib.hid (HvA.out.below hb5)
 clear hb5
 have hS2 := HS _ hC2
 go_simp
 refine wpAnyH_all (rs := [8]) (by kernel_rfl) (by simp) (fun j hj => ?_)
 obtain rfl : j = 8 := by simpa using hj
 refine Or.inl ?_
 go_simp
 refine wpAnyH_all (rs := [9]) (by kernel_rfl) (by simp) (fun j hj => ?_)
 obtain rfl : j = 9 := by simpa using hj
 refine Or.inl ?_
 have hblk := HZ.out _ hC2
 have g0 := block_cell (j := 0) hblk rfl
 have g1 := block_cell (j := 1) hblk rfl
 have g2 := block_cell (j := 2) hblk rfl
 have f0 := block_free (j := 0) hblk
 have f1 := block_free (j := 1) hblk
 have f2 := block_free (j := 2) hblk
 have hb3 := set3_is (v0 := .slice a1 p.objects.length c1) (v1 := .slice a2 p.updates.length c2) (v2 := .bool p.force) hblk
 have hu3 := set3_upd (w.heap.size + 1) (.slice a1 p.objects.length c1) (.slice a2 p.updates.length c2) (.bool p.force) x2
 have Hb3 := Lib.hid hb3
 have Hu3 := Lib.hid hu3
 clear hb3 hu3
 go_wp2_with fail
 refine ⟨by kernel_rfl, ?_⟩
 change Exit.then _ _ _ _ (set3 (w.heap.size + 1) (.slice a1 p.objects.length c1) (.slice a2 p.updates.length c2) (.bool p.force) x2)
 have hb3 := Hb3.out
 have hu3 := Hu3.out
 clear Hb3 Hu3
 generalize set3 (w.heap.size + 1) (.slice a1 p.objects.length c1) (.slice a2 p.updates.length c2) (.bool p.force) x2 = w3 at *
 have k0 := block_cell (j := 0) hb3 rfl
 have k1 := block_cell (j := 1) hb3 rfl
 have k2 := block_cell (j := 2) hb3 rfl
 clear g0 g1 g2 f0 f1 f2 hblk hb3
 have hsz := (hQb _ hC2).size
 have hB3 : Below w.heap.size w w3 := (hQb _ hC2).trans (hu3.below (B := w.heap.size) hsz (fun b hb => by omega))
 go_wp2_with fail
 refine bodyPost_ret (v := .agg #[.slice a1 p.objects.length c1, .slice a2 p.updates.length c2, .bool p.force]) (by simp [results, Tryz.results78, go_sem]; simp [k0, k1, k2] <;> rfl) rfl ?_
 exact ⟨_, _, rfl, (HvA.out.upd' hu3 (fun b hb e => by omega)).weaken fun b hb => by omega, (HvU.out.upd hu3 (fun b hb e => by omega)).weaken fun b hb => by omega, hB3⟩
set_option maxRecDepth 100000 in
set_option maxHeartbeats 4000000 in
theorem repOwn_any (r : Rep) (sv rv ov uv : Value) (S : Nat → Prop) (w : World) (h : RepIs S w r sv rv ov uv) :
  Calls Tryz.prog 140 #[repV r sv rv ov uv] w fun e w' => RetRep w w' e r := by
 have H := Lib.hid h
 have h56 := h.store.bytes
 have h24 := h.refs.bytes
 obtain ⟨sa, sc, rfl⟩ := h.store.vshape
 obtain ⟨⟨ra, rc⟩, rfl⟩ := h.refs.shape
 obtain ⟨oa, oc, rfl⟩ := h.objs.vshape
 obtain ⟨⟨ua, uc⟩, rfl⟩ := h.upds.shape
 clear h
 simp only [repV]
 obtain ⟨Q, hQ, hQ1, HB0⟩ := cls_allocs w [.cells #[.slice sa r.store.length sc, .slice ra r.refs.length rc, .int .i64 r.gen, .int .i64 r.phase, .slice oa r.pend.objects.length oc, .slice ua r.pend.updates.length uc, .bool r.pend.force] 28, .cells #[.slice none 0 0, .slice none 0 0, .int .i64 0, .int .i64 0, .slice none 0 0, .slice none 0 0, .bool false] 28]
 simp only [List.foldl] at hQ1
 have hQn := hQ.next
 have hQb := hQ.below
 have HZ := Lib.hid (fun x (hx : In Q x) => HB0 x hx 1 _ rfl)
 have HN := Lib.hid (fun x (hx : In Q x) => show w.heap.size + 2 ≤ x.heap.size from lt_of_block (HB0 x hx 1 _ rfl))
 have HS : ∀ x, In Q x → (fun x : World => x.cell? ⟨w.heap.size, 0, none⟩ = some (.slice sa r.store.length sc) ∧ x.cell? ⟨w.heap.size, 1, none⟩ = some (.slice ra r.refs.length rc) ∧ x.cell? ⟨w.heap.size, 2, none⟩ = some (.int .i64 r.gen) ∧ x.cell? ⟨w.heap.size, 3, none⟩ = some (.int .i64 r.phase) ∧ x.cell? ⟨w.heap.size, 4, none⟩ = some (.slice oa r.pend.objects.length oc) ∧ x.cell? ⟨w.heap.size, 5, none⟩ = some (.slice ua r.pend.updates.length uc) ∧ x.cell? ⟨w.heap.size, 6, none⟩ = some (.bool r.pend.force)) x := fun x hx => ⟨block_cell (j := 0) (HB0 x hx 0 _ rfl) rfl, block_cell (j := 1) (HB0 x hx 0 _ rfl) rfl, block_cell (j := 2) (HB0 x hx 0 _ rfl) rfl, block_cell (j := 3) (HB0 x hx 0 _ rfl) rfl, block_cell (j := 4) (HB0 x hx 0 _ rfl) rfl, block_cell (j := 5) (HB0 x hx 0 _ rfl) rfl, block_cell (j := 6) (HB0 x hx 0 _ rfl) rfl⟩
 have HA := Lib.hid (fun x (hx : In Q x) => storeOwn_any r.store _ _ x (H.out.store.below (hQb _ hx)))
 have HU := Lib.hid (fun x (hx : In Q x) => cloneRefs_any r.refs _ _ x (H.out.refs.below (hQb _ hx)))
 have HP := Lib.hid (fun x (hx : In Q x) => pushOwn_any r.pend _ _ _ _ x (H.out.objs.below (hQb _ hx)) (H.out.upds.below (hQb _ hx)))
 simp only [pshV] at HP
 clear HB0
 go_enter Tryz.func140, Tryz.ntmps140
 go_wp2_with fail
 refine wp_region_held (S := (fun x : World => x.cell? ⟨w.heap.size, 0, none⟩ = some (.slice sa r.store.length sc) ∧ x.cell? ⟨w.heap.size, 1, none⟩ = some (.slice ra r.refs.length rc) ∧ x.cell? ⟨w.heap.size, 2, none⟩ = some (.int .i64 r.gen) ∧ x.cell? ⟨w.heap.size, 3, none⟩ = some (.int .i64 r.phase) ∧ x.cell? ⟨w.heap.size, 4, none⟩ = some (.slice oa r.pend.objects.length oc) ∧ x.cell? ⟨w.heap.size, 5, none⟩ = some (.slice ua r.pend.updates.length uc) ∧ x.cell? ⟨w.heap.size, 6, none⟩ = some (.bool r.pend.force))) (by kernel_rfl) ?_
 change wpAnyH _ _ _ _ _ _ _ _ (World.drew _)
 have hC0 := hQ.drew _ hQ1
 generalize ((w.alloc _).alloc _).drew = x0 at hC0 ⊢
 clear hQ1
 have hS0 := HS _ hC0
 refine wpAnyH_take (i := 0) (v := .pointer (some ⟨w.heap.size, 0, none⟩)) rfl (by kernel_rfl) (by kernel_rfl) (by kernel_rfl) (fun _ _ _ h => h) (Or.inl ⟨by rfl, fun w hSw => ?_⟩) hS0 ?_
 ·go_simp
 simp only [Act.put, List.setIfInBounds_toArray, List.set_cons_zero, List.set_cons_succ]
 refine wpAnyH_take (i := 1) (v := .slice sa r.store.length sc) rfl (by kernel_rfl) (by kernel_rfl) (by kernel_rfl) (fun _ _ _ h => h) (Or.inl ⟨by rfl, fun w hSw => ?_⟩) hS0 ?_
 ·have yy := hSw.1; go_simp
 simp only [Act.put, List.setIfInBounds_toArray, List.set_cons_zero, List.set_cons_succ]
 refine wpAnyH_take (i := 3) (v := .pointer (some ⟨w.heap.size, 1, none⟩)) rfl (by kernel_rfl) (by kernel_rfl) (by kernel_rfl) (fun _ _ _ h => h) (Or.inl ⟨by rfl, fun w hSw => ?_⟩) hS0 ?_
 ·go_simp
 simp only [Act.put, List.setIfInBounds_toArray, List.set_cons_zero, List.set_cons_succ]
 refine wpAnyH_take (i := 4) (v := .slice ra r.refs.length rc) rfl (by kernel_rfl) (by kernel_rfl) (by kernel_rfl) (fun _ _ _ h => h) (Or.inl ⟨by rfl, fun w hSw => ?_⟩) hS0 ?_
 ·have yy := hSw.2.1; go_simp
 simp only [Act.put, List.setIfInBounds_toArray, List.set_cons_zero, List.set_cons_succ]
 refine wpAnyH_take (i := 6) (v := .pointer (some ⟨w.heap.size, 2, none⟩)) rfl (by kernel_rfl) (by kernel_rfl) (by kernel_rfl) (fun _ _ _ h => h) (Or.inl ⟨by rfl, fun w hSw => ?_⟩) hS0 ?_
 ·go_simp
 simp only [Act.put, List.setIfInBounds_toArray, List.set_cons_zero, List.set_cons_succ]
 refine wpAnyH_take (i := 7) (v := .int .i64 r.gen) rfl (by kernel_rfl) (by kernel_rfl) (by kernel_rfl) (fun _ _ _ h => h) (Or.inl ⟨by rfl, fun w hSw => ?_⟩) hS0 ?_
 ·have yy := hSw.2.2.1; go_simp
 simp only [Act.put, List.setIfInBounds_toArray, List.set_cons_zero, List.set_cons_succ]
 refine wpAnyH_take (i := 8) (v := .pointer (some ⟨w.heap.size, 3, none⟩)) rfl (by kernel_rfl) (by kernel_rfl) (by kernel_rfl) (fun _ _ _ h => h) (Or.inl ⟨by rfl, fun w hSw => ?_⟩) hS0 ?_
 ·go_simp
 simp only [Act.put, List.setIfInBounds_toArray, List.set_cons_zero, List.set_cons_succ]
 refine wpAnyH_take (i := 9) (v := .int .i64 r.phase) rfl (by kernel_rfl) (by kernel_rfl) (by kernel_rfl) (fun _ _ _ h => h) (Or.inl ⟨by rfl, fun w hSw => ?_⟩) hS0 ?_
 ·have yy := hSw.2.2.2.1; go_simp
 simp only [Act.put, List.setIfInBounds_toArray, List.set_cons_zero, List.set_cons_succ]
 refine wpAnyH_take (i := 10) (v := .pointer (some ⟨w.heap.size, 4, none⟩)) rfl (by kernel_rfl) (by kernel_rfl) (by kernel_rfl) (fun _ _ _ h => h) (Or.inl ⟨by rfl, fun w hSw => ?_⟩) hS0 ?_
 ·go_simp
 simp only [Act.put, List.setIfInBounds_toArray, List.set_cons_zero, List.set_cons_succ]
 refine wpAnyH_take (i := 11) (v := .agg #[.slice oa r.pend.objects.length oc, .slice ua r.pend.updates.length uc, .bool r.pend.force]) rfl (by kernel_rfl) (by kernel_rfl) (by kernel_rfl) (fun _ _ _ h => h) (Or.inl ⟨by rfl, fun w hSw => ?_⟩) hS0 ?_
 ·obtain ⟨_, _, _, _, y4, y5, y6⟩ := hSw; go_simp
 simp only [Act.put, List.setIfInBounds_toArray, List.set_cons_zero, List.set_cons_succ]
 refine wpAnyH_all (rs := [2]) (by kernel_rfl) (by simp) (fun j hj => ?_)
 obtain rfl : j = 2 := by simpa using hj
 refine Or.inl ?_
 go_wp2_with fail
 refine (HA.out _ hC0).mono ?_
 rintro e x1 ⟨vA, rfl, hvA, hb2⟩
 have hC1 := hQn _ _ hC0 hb2
 have hs0 := HN.out _ hC0
 obtain ⟨a1, c1, rfl⟩ := hvA.gath.shape
 have HvA := Lib.hid ((hvA.store h56).weaken (S' := fun b => w.heap.size + 2 ≤ b) (fun b hb => by omega))
 clear hvA
 clear hb2
 have hS1 := HS _ hC1
 go_simp
 refine wpAnyH_all (rs := [5]) (by kernel_rfl) (by simp) (fun j hj => ?_)
 obtain rfl : j = 5 := by simpa using hj
 refine Or.inl ?_
 go_wp2_with fail
 refine (HU.out _ hC1).mono ?_
 rintro e x2 ⟨vU, rfl, hvU, hb5⟩
 have hC2 := hQn _ _ hC1 hb5
 have hs1 := HN.out _ hC1
 obtain ⟨a2, c2, rfl⟩ := hvU.shape
 have HvU := Lib.hid ((hvU.refs h24).weaken (S' := fun b => w.heap.size + 2 ≤ b) (fun b hb => by omega))
 clear hvU
 replace HvA := Lib.hid (HvA.out.below hb5)
 clear hb5
 have hS2 := HS _ hC2
 go_simp
 refine wpAnyH_all (rs := [12]) (by kernel_rfl) (by simp) (fun j hj => ?_)
 obtain rfl : j = 12 := by simpa using hj
 refine Or.inl ?_
 go_wp2_with fail
 refine (HP.out _ hC2).mono ?_
 rintro e x3 ⟨vO, vM, rfl, hvO, hvM, hb12⟩
 have hC3 := hQn _ _ hC2 hb12
 have hs2 := HN.out _ hC2
 obtain ⟨a3, c3, rfl⟩ := hvO.vshape
 obtain ⟨⟨a4, c4⟩, rfl⟩ := hvM.shape
 have HvO := Lib.hid (hvO.weaken (S' := fun b => w.heap.size + 2 ≤ b) (fun b hb => by omega))
 have HvM := Lib.hid (hvM.weaken (S' := fun b => w.heap.size + 2 ≤ b) (fun b hb => by omega))
 have HvP := Lib.hid (show PshAt (fun b => w.heap.size + 2 ≤ b) _ r.pend _ _ from ⟨HvO.out, HvM.out⟩)
 clear hvO hvM HvO HvM
 simp only [pshV]
 replace HvA := Lib.hid (HvA.out.below hb12)
 replace HvU := Lib.hid (HvU.out.below hb12)
 clear hb12
 have hS3 := HS _ hC3
 go_simp
 refine wpAnyH_all (rs := [13]) (by kernel_rfl) (by simp) (fun j hj => ?_)
 obtain rfl : j = 13 := by simpa using hj
 refine Or.inl ?_
 go_simp
 refine wpAnyH_all (rs := [14]) (by kernel_rfl) (by simp) (fun j hj => ?_)
 obtain rfl : j = 14 := by simpa using hj
 refine Or.inl ?_
 have hblk := HZ.out _ hC3
 have g0 := block_cell (j := 0) hblk rfl
 have g1 := block_cell (j := 1) hblk rfl
 have g2 := block_cell (j := 2) hblk rfl
 have g3 := block_cell (j := 3) hblk rfl
 have g4 := block_cell (j := 4) hblk rfl
 have g5 := block_cell (j := 5) hblk rfl
 have g6 := block_cell (j := 6) hblk rfl
 have f0 := block_free (j := 0) hblk
 have f1 := block_free (j := 1) hblk
 have f2 := block_free (j := 2) hblk
 have f3 := block_free (j := 3) hblk
 have f4 := block_free (j := 4) hblk
 have f5 := block_free (j := 5) hblk
 have f6 := block_free (j := 6) hblk
 have hb7 := set7_is (v0 := .slice a1 r.store.length c1) (v1 := .slice a2 r.refs.length c2) (v2 := .int .i64 r.gen) (v3 := .int .i64 r.phase) (v4 := .slice a3 r.pend.objects.length c3) (v5 := .slice a4 r.pend.updates.length c4) (v6 := .bool r.pend.force) hblk
 have hu7 := set7_upd (w.heap.size + 1) (.slice a1 r.store.length c1) (.slice a2 r.refs.length c2) (.int .i64 r.gen) (.int .i64 r.phase) (.slice a3 r.pend.objects.length c3) (.slice a4 r.pend.updates.length c4) (.bool r.pend.force) x3
 have Hb7 := Lib.hid hb7
 have Hu7 := Lib.hid hu7
 clear hb7 hu7
 go_wp2_with fail
 refine ⟨by kernel_rfl, ?_⟩
 change Exit.then _ _ _ _ (set7 (w.heap.size + 1) (.slice a1 r.store.length c1) (.slice a2 r.refs.length c2) (.int .i64 r.gen) (.int .i64 r.phase) (.slice a3 r.pend.objects.length c3) (.slice a4 r.pend.updates.length c4) (.bool r.pend.force) x3)
 have hb7 := Hb7.out
 have hu7 := Hu7.out
 clear Hb7 Hu7
 generalize set7 (w.heap.size + 1) (.slice a1 r.store.length c1) (.slice a2 r.refs.length c2) (.int .i64 r.gen) (.int .i64 r.phase) (.slice a3 r.pend.objects.length c3) (.slice a4 r.pend.updates.length c4) (.bool r.pend.force) x3 = w7 at *
 have k0 := block_cell (j := 0) hb7 rfl
 have k1 := block_cell (j := 1) hb7 rfl
 have k2 := block_cell (j := 2) hb7 rfl
 have k3 := block_cell (j := 3) hb7 rfl
 have k4 := block_cell (j := 4) hb7 rfl
 have k5 := block_cell (j := 5) hb7 rfl
 have k6 := block_cell (j := 6) hb7 rfl
 clear g0 g1 g2 g3 g4 g5 g6 f0 f1 f2 f3 f4 f5 f6 hblk hb7
 have hsz := (hQb _ hC3).size
 have hB7 : Below w.heap.size w w7 := (hQb _ hC3).trans (hu7.below (B := w.heap.size) hsz (fun b hb => by omega))
 go_wp2_with fail
 refine bodyPost_ret (v := .agg #[.slice a1 r.store.length c1, .slice a2 r.refs.length c2, .int .i64 r.gen, .int .i64 r.phase, .slice a3 r.pend.objects.length c3, .slice a4 r.pend.updates.length c4, .bool r.pend.force]) (by simp [results, Tryz.results140, go_sem]; simp [k0, k1, k2, k3, k4, k5, k6] <;> rfl) rfl ?_
 exact ⟨_, _, _, _, rfl, ⟨(HvA.out.upd' hu7 (fun b hb e => by omega)).weaken fun b hb => by omega, (HvU.out.upd hu7 (fun b hb e => by omega)).weaken fun b hb => by omega, (HvP.out.1.upd' hu7 (fun b hb e => by omega)).weaken fun b hb => by omega, (HvP.out.2.upd hu7 (fun b hb e => by omega)).weaken fun b hb => by omega, H.out.gen, H.out.phase⟩, hB7⟩
end Go.Proofs.YtjdgpgfiomnjkaaGreatDoor
namespace Go.Proofs.YtjdgpgfiomnjkaaGreatDoor
open Go.RowKit
set_option linter.unusedVariables false
set_option linter.unusedSimpArgs false
def rep (l : List Rep) (i : Nat) : Rep := at_ rep0 l i
theorem rep_lt {l : List Rep} {i : Nat} (h : i < l.length) : rep l i = l[i] := at_lt h
structure RV where
 s : Value
 r : Value
 o : Value
 u : Value
def repC (r : Rep) (x : RV) : List Value := [x.s, x.r, .int .i64 r.gen, .int .i64 r.phase, x.o, x.u, .bool r.pend.force]
def RepAt (S : Nat → Prop) (w : World) (r : Rep) (x : RV) : Prop := RepIs S w r x.s x.r x.o x.u
def RepsV (S : Nat → Prop) (w : World) (v : Value) (l : List Rep) : Prop :=
 ∃ vs : Nat → RV, Sl S w v 7 120 l.length (fun i => repC (rep l i) (vs i)) ∧ ∀ i, i < l.length → RepAt S w (rep l i) (vs i)
theorem RepsV.below {S : Nat → Prop} {w w' : World} {v : Value} {l : List Rep} (h : RepsV S w v l) (hb : Below w.heap.size w w') : RepsV S w' v l :=
 let ⟨vs, h1, h2⟩ := h; ⟨vs, h1.below hb, fun i hi => (h2 i hi).below hb⟩
theorem RepsV.weaken {S S' : Nat → Prop} {w : World} {v : Value} {l : List Rep} (h : RepsV S w v l) (hs : ∀ b, S b → S' b) : RepsV S' w v l :=
 let ⟨vs, h1, h2⟩ := h; ⟨vs, h1.weaken hs, fun i hi => (h2 i hi).weaken hs⟩
theorem RepsV.nil (S : Nat → Prop) (w : World) (cap : Nat) (a : Option Addr) (h : cap ≤ 9223372036854775807) : RepsV S w (.slice a 0 cap) [] :=
 ⟨fun _ => ⟨.nilFunc, .nilFunc, .nilFunc, .nilFunc⟩, ⟨a, cap, rfl, Nat.zero_le _, h, by simp, fun h => absurd h (by simp)⟩, fun i hi => by simp at hi⟩
theorem RepsV.vshape {S : Nat → Prop} {w : World} {v : Value} {l : List Rep} (h : RepsV S w v l) : ∃ a c, v = .slice a l.length c :=
 let ⟨_, ⟨a, cap, hv, _⟩, _⟩ := h; ⟨a, cap, hv⟩
theorem RepsV.take {S : Nat → Prop} {w : World} {a : Option Addr} {n cap : Nat} {l : List Rep} (h : RepsV S w (.slice a n cap) l) {i : Nat} (hi : i ≤ l.length) : RepsV S w (.slice a i cap) (l.take i) := by
 obtain ⟨vs, ⟨a', cap', hv, h1, h2, h3, h4⟩, h5⟩ := h
 cases hv
 have hl : (l.take i).length = i := by rw [List.length_take]; omega
 have he : ∀ j, j < i → rep (l.take i) j = rep l j := fun j hj => by unfold rep at_; simp only [List.getD_eq_getElem?_getD, List.getElem?_take, if_pos hj]
 refine ⟨vs, ⟨a, cap, by rw [hl], by omega, h2, by omega, fun hn => ?_⟩, fun j hj => ?_⟩
 ·obtain ⟨b, off, ha, hS, hc⟩ := h4 (by omega)
  exact ⟨b, off, ha, hS, fun j hj k u hu => hc j (by omega) k u (by show (repC (rep l j) (vs j))[k]? = some u; rw [← he j (by omega)]; exact hu)⟩
 ·rw [he j (by omega)]; exact h5 j (by omega)
structure RA where
 sa : Option Addr
 sc : Nat
 ra : Option Addr
 rc : Nat
 oa : Option Addr
 oc : Nat
 ua : Option Addr
 uc : Nat
def RA.rv (x : RA) (r : Rep) : RV := ⟨.slice x.sa r.store.length x.sc, .slice x.ra r.refs.length x.rc, .slice x.oa r.pend.objects.length x.oc, .slice x.ua r.pend.updates.length x.uc⟩
theorem RepAt.ra {S : Nat → Prop} {w : World} {r : Rep} {x : RV} (h : RepAt S w r x) : ∃ y : RA, x = y.rv r := by
 obtain ⟨sa, sc, e1⟩ := StoreV.vshape h.store
 obtain ⟨⟨ra, rc⟩, e2⟩ := RefsV.shape h.refs
 obtain ⟨oa, oc, e3⟩ := StoreV.vshape h.objs
 obtain ⟨⟨ua, uc⟩, e4⟩ := MvsV.shape h.upds
 exact ⟨⟨sa, sc, ra, rc, oa, oc, ua, uc⟩, by cases x; simp_all [RA.rv]⟩
theorem RepsV.open {S : Nat → Prop} {w : World} {v : Value} {l : List Rep} (h : RepsV S w v l) :
  ∃ a n cap, ∃ f : Nat → RA, Hid (n = l.length) ∧ v = .slice a n cap ∧ n ≤ cap ∧ cap ≤ 9223372036854775807 ∧ n * 120 ≤ 140737488351232 ∧
   (0 < n → ∃ b off, a = some ⟨b, off, none⟩ ∧ S b ∧
    (∀ i x, i < n → Below w.heap.size w x → x.cell? ⟨b, off + i * 7, none⟩ = some (.slice (f i).sa (rep l i).store.length (f i).sc)) ∧
    (∀ i x, i < n → Below w.heap.size w x → x.cell? ⟨b, off + i * 7 + 1, none⟩ = some (.slice (f i).ra (rep l i).refs.length (f i).rc)) ∧
    (∀ i x, i < n → Below w.heap.size w x → x.cell? ⟨b, off + i * 7 + 2, none⟩ = some (.int .i64 (rep l i).gen)) ∧
    (∀ i x, i < n → Below w.heap.size w x → x.cell? ⟨b, off + i * 7 + 3, none⟩ = some (.int .i64 (rep l i).phase)) ∧
    (∀ i x, i < n → Below w.heap.size w x → x.cell? ⟨b, off + i * 7 + 4, none⟩ = some (.slice (f i).oa (rep l i).pend.objects.length (f i).oc)) ∧
    (∀ i x, i < n → Below w.heap.size w x → x.cell? ⟨b, off + i * 7 + 5, none⟩ = some (.slice (f i).ua (rep l i).pend.updates.length (f i).uc)) ∧
    (∀ i x, i < n → Below w.heap.size w x → x.cell? ⟨b, off + i * 7 + 6, none⟩ = some (.bool (rep l i).pend.force))) ∧
   (∀ i, i < n → RepIs S w (rep l i) (.slice (f i).sa (rep l i).store.length (f i).sc) (.slice (f i).ra (rep l i).refs.length (f i).rc) (.slice (f i).oa (rep l i).pend.objects.length (f i).oc) (.slice (f i).ua (rep l i).pend.updates.length (f i).uc)) := by
 obtain ⟨vs, h1, h2⟩ := h
 have hp : ∃ f : Nat → RA, ∀ i, i < l.length → vs i = (f i).rv (rep l i) := by
  refine ⟨fun i => if hi : i < l.length then Classical.choose (h2 i hi).ra else ⟨none, 0, none, 0, none, 0, none, 0⟩, fun i hi => ?_⟩
  simp only [hi, dif_pos]
  exact Classical.choose_spec (h2 i hi).ra
 obtain ⟨f, hf⟩ := hp
 obtain ⟨a, cap, hv, h3, h4, h5, h6⟩ := h1
 refine ⟨a, l.length, cap, f, rfl, hv, h3, h4, h5, fun hn => ?_, fun i hi => ?_⟩
 ·obtain ⟨b, off, ha, hS, hc⟩ := h6 hn
  have hc' : ∀ i x, i < l.length → Below w.heap.size w x → ∀ j u, (repC (rep l i) ((f i).rv (rep l i)))[j]? = some u → x.cell? ⟨b, off + i * 7 + j, none⟩ = some u :=
   fun i x hi hb j u hu => below_cell hb (hc i hi j u (by show (repC (rep l i) (vs i))[j]? = some u; rw [hf i hi]; exact hu))
  exact ⟨b, off, ha, hS, fun i x hi hb => hc' i x hi hb 0 _ rfl, fun i x hi hb => hc' i x hi hb 1 _ rfl, fun i x hi hb => hc' i x hi hb 2 _ rfl, fun i x hi hb => hc' i x hi hb 3 _ rfl, fun i x hi hb => hc' i x hi hb 4 _ rfl, fun i x hi hb => hc' i x hi hb 5 _ rfl, fun i x hi hb => hc' i x hi hb 6 _ rfl⟩
 ·have := h2 i hi
  rw [hf i hi] at this; exact this
def bestTo (l : List Rep) : Nat → Nat × Nat
 | 0 => (0, 0)
 | k + 1 => if k = 0 ∨ (rep l (bestTo l k).1).gen < (rep l k).gen then (k, 1) else if (rep l k).gen = (rep l (bestTo l k).1).gen then ((bestTo l k).1, (bestTo l k).2 + 1) else bestTo l k
theorem bestTo_lt (l : List Rep) : ∀ k, (bestTo l k).1 < k ∨ (bestTo l k).1 = 0
 | 0 => .inr rfl
 | k + 1 => by
  have := bestTo_lt l k
  unfold bestTo
  split
  ·exact .inl (by simp)
  ·split <;> (left; try dsimp only) <;> omega
theorem bestTo_many (l : List Rep) : ∀ k, (bestTo l k).2 ≤ k
 | 0 => Nat.le_refl _
 | k + 1 => by
  have := bestTo_many l k
  unfold bestTo
  split
  ·simp
  ·split <;> (try dsimp only) <;> omega
def best (l : List Rep) : Nat := (bestTo l l.length).1
def many (l : List Rep) : Nat := (bestTo l l.length).2
set_option maxRecDepth 100000 in
set_option maxHeartbeats 2000000 in
theorem best_any (l : List Rep) (v : Value) (S : Nat → Prop) (w : World) (h : RepsV S w v l) :
  Calls Tryz.prog 112 #[.agg #[v]] w fun e w' => e = .returned (.tuple #[.int .i64 (best l), .int .i64 (many l)]) ∧ Below w.heap.size w w' := by
 obtain ⟨a, n, cap, fr, HN, rfl, h1, h2, h3, h4, h5⟩ := h.open
 have HF := Lib.hid (show best l = (bestTo l n).1 ∧ many l = (bestTo l n).2 by rw [HN.out]; exact ⟨rfl, rfl⟩)
 clear h h5
 obtain ⟨R, hR, hR1, HB0⟩ := cls_allocs w [.cells #[.slice a n cap] 66]
 simp only [List.foldl] at hR1
 have hRb := hR.below
 have hRn := hR.next
 have c0 := fun x (hx : In R x) => block_cell (j := 0) (HB0 x hx 0 _ rfl) rfl
 simp only [Nat.add_zero] at c0
 clear HB0
 have cc := c0 _ hR1
 go_enter Tryz.func112, Tryz.ntmps112
 go_wp2_with fail
 clear cc
 go_loopw [4, 5, 12] (fun s4 s5 i wr => ∃ k : Nat, k ≤ n ∧ i = .int .i64 k ∧ s4 = .int .i64 ((bestTo l k).1 : Nat) ∧ s5 = .int .i64 ((bestTo l k).2 : Nat) ∧ In R wr) (fun _ _ i _ => n - (intOf i).toNat)
 case atStart => exact ⟨0, by omega, rfl, rfl, rfl, hR1⟩
 case round =>
  obtain ⟨k, hk, rfl, rfl, rfl, hRw⟩ := hrel
  clear hR1
  by_cases hlt : k < n
  ·obtain ⟨b, off, rfl, hb, k0, k1, k2, k3, k4, k5, k6⟩ := h4 (by omega)
   have x0 := k0 k wr hlt (hRb _ hRw)
   have x1 := k1 k wr hlt (hRb _ hRw)
   have x2 := k2 k wr hlt (hRb _ hRw)
   have x3 := k3 k wr hlt (hRb _ hRw)
   have x4 := k4 k wr hlt (hRb _ hRw)
   have x5 := k5 k wr hlt (hRb _ hRw)
   have x6 := k6 k wr hlt (hRb _ hRw)
   obtain ⟨Q, hQ, hQ1, hy⟩ := cls_box wr #[.slice (fr k).sa (rep l k).store.length (fr k).sc, .slice (fr k).ra (rep l k).refs.length (fr k).rc, .int .i64 (rep l k).gen, .int .i64 (rep l k).phase, .slice (fr k).oa (rep l k).pend.objects.length (fr k).oc, .slice (fr k).ua (rep l k).pend.updates.length (fr k).uc, .bool (rep l k).pend.force] 28
   have y2 := hy 2 _ rfl _ hQ1
   have hR2 := hRn _ _ hRw (hQ.below _ hQ1)
   have hi1 : (0 : Int) ≤ (k : Int) := by omega
   have hi2 : (k : Int) < (n : Int) := by omega
   have Hnx := Lib.hid (show bestTo l (k + 1) = if k = 0 ∨ (rep l (bestTo l k).1).gen < (rep l k).gen then (k, 1) else if (rep l k).gen = (rep l (bestTo l k).1).gen then ((bestTo l k).1, (bestTo l k).2 + 1) else bestTo l k from rfl)
   have hml := bestTo_lt l k
   have hmm := bestTo_many l k
   generalize hat : (bestTo l k).1 = at0 at *
   generalize hma : (bestTo l k).2 = ma at *
   rw [show bestTo l k = (at0, ma) from Prod.ext hat hma] at Hnx
   have hat1 : at0 < n := by omega
   have xa := k2 at0 _ hat1 (hRb _ hR2)
   have c1 := c0 _ hR2
   have ci := c0 _ hRw
   clear hat hma k0 k1 k2 k3 k4 k5 k6 h4 hy hQ1 hml
   have ha1 : (0 : Int) ≤ (at0 : Int) := by omega
   have ha2 : (at0 : Int) < (n : Int) := by omega
   have hw1 := wrap_in (n := (ma : Int) + 1) (by omega)
   by_cases hz : k = 0
   ·have Hn2 := Lib.hid (show bestTo l (k + 1) = (k, 1) by rw [Hnx.out, if_pos (.inl hz)])
    have q0 : ((k : Int) == 0) = true := by simp [hz]
    clear hz
    go_wp2_with fail
    go_roundw
    case rel => exact ⟨k + 1, by omega, by go_num, by rw [Hn2.out]; try rfl, by rw [Hn2.out]; try rfl, hR2⟩
    case measure => simp [intOf]; omega
   ·have q0 : ((k : Int) == 0) = false := by simpa using hz
    by_cases hg : (rep l at0).gen < (rep l k).gen
    ·have Hn2 := Lib.hid (show bestTo l (k + 1) = (k, 1) by rw [Hnx.out, if_pos (.inr hg)])
     have q1 : decide ((rep l at0).gen < (rep l k).gen) = true := decide_eq_true hg
     clear hz hg
     go_wp2_with fail
     go_roundw
     case rel => exact ⟨k + 1, by omega, by go_num, by rw [Hn2.out]; try rfl, by rw [Hn2.out]; try rfl, hR2⟩
     case measure => simp [intOf]; omega
    ·have q1 : decide ((rep l at0).gen < (rep l k).gen) = false := decide_eq_false hg
     by_cases he : (rep l k).gen = (rep l at0).gen
     ·have Hn2 := Lib.hid (show bestTo l (k + 1) = (at0, ma + 1) by rw [Hnx.out, if_neg (by simp [hz, hg]), if_pos he])
      have q2 : ((rep l k).gen == (rep l at0).gen) = true := by simpa using he
      clear hz hg he
      go_wp2_with fail
      go_roundw
      case rel => exact ⟨k + 1, by omega, by go_num, by rw [Hn2.out]; try first | rfl | simp, by rw [Hn2.out]; try first | rfl | simp, hR2⟩
      case measure => simp [intOf]; omega
     ·have Hn2 := Lib.hid (show bestTo l (k + 1) = (at0, ma) by rw [Hnx.out, if_neg (by simp [hz, hg]), if_neg he])
      have q2 : ((rep l k).gen == (rep l at0).gen) = false := by simpa using he
      clear hz hg he
      go_wp2_with fail
      go_roundw
      case rel => exact ⟨k + 1, by omega, by go_num, by rw [Hn2.out]; try rfl, by rw [Hn2.out]; try rfl, hR2⟩
      case measure => simp [intOf]; omega
  ·obtain rfl : k = n := by omega
   go_wp2_with fail
   refine bodyPost_ret (v := .tuple #[.int .i64 ((bestTo l k).1 : Nat), .int .i64 ((bestTo l k).2 : Nat)]) (by simp [results, Tryz.results112, go_sem] <;> rfl) rfl ?_
   exact ⟨by rw [HF.out.1, HF.out.2], hRb _ hRw⟩
set_option maxHeartbeats 2000000 in
theorem equalRefs_any (xs ys : List Rf) (v v' : Value) (S S' : Nat → Prop) (w : World) (h1 : RefsV S w v xs) (h2 : RefsV S' w v' ys) :
  Calls Tryz.prog 160 #[v, v'] w fun e w' => e = .returned (.bool (sameRefs xs ys)) ∧ Below w.heap.size w w' := by
 obtain ⟨a, n, cap, HN, rfl, hc1, hc2, hc8, hc, _⟩ := h1.open
 obtain ⟨a', n', cap', HN', rfl, hc1', hc2', hc8', hc', _⟩ := h2.open
 obtain ⟨R, hR, hR1, _⟩ := cls_plain w
 have hRb := hR.below
 have hRn := hR.drewN
 by_cases hl : n = n'
 ·subst hl
  have Hall := Lib.hid (sameRefs_all (xs := xs) (ys := ys) (by rw [← HN.out, ← HN'.out]))
  go_enter Tryz.func160, Tryz.ntmps160
  go_wp2
  go_loopw [13] (fun i wr => ∃ k : Nat, k ≤ n ∧ i = .int .i64 k ∧ Hid (∀ j, j < k → sameRf (rf xs j) (rf ys j) = true) ∧ In R wr) (fun i _ => n - (intOf i).toNat)
  case atStart => exact ⟨0, by omega, rfl, fun j hj => absurd hj (by omega), hR1⟩
  case round =>
   obtain ⟨k, hk, rfl, Hs, hRw⟩ := hrel
   clear hR1
   by_cases hlt : k < n
   ·obtain ⟨b, off, rfl, hb, k0, k1⟩ := hc (by omega)
    obtain ⟨b', off', rfl, hb', k0', k1'⟩ := hc' (by omega)
    have x0 : ∀ x, In R x → x.cell? ⟨b, off + k * 2, none⟩ = some (.string (rf xs k).name) := fun x hx => k0 k x hlt (hRb x hx)
    have x1 : ∀ x, In R x → x.cell? ⟨b, off + k * 2 + 1, none⟩ = some (.int .i64 (rf xs k).id) := fun x hx => k1 k x hlt (hRb x hx)
    have x0' : ∀ x, In R x → x.cell? ⟨b', off' + k * 2, none⟩ = some (.string (rf ys k).name) := fun x hx => k0' k x hlt (hRb x hx)
    have x1' : ∀ x, In R x → x.cell? ⟨b', off' + k * 2 + 1, none⟩ = some (.int .i64 (rf ys k).id) := fun x hx => k1' k x hlt (hRb x hx)
    clear hc hc' k0 k1 k0' k1'
    have hi1 : (0 : Int) ≤ (k : Int) := by omega
    have hi2 : (k : Int) < (n : Int) := by omega
    have hneq := run_neq_rf (rf xs k) (rf ys k)
    cases he : sameRf (rf xs k) (rf ys k)
    ·rw [he] at hneq
     have Hq := Lib.hid (sameRefs_at (xs := xs) (ys := ys) (k := k) (by rw [← HN.out]; exact hlt) he); clear he
     go_wp2_with fail
     go_quiet (fail)
     go_wp2
     go_ret
     exact ⟨by rw [Hq.out]; rfl, hRb _ (hRn _ _ hRw)⟩
    ·rw [he] at hneq
     have He := Lib.hid he; clear he
     go_wp2_with fail
     go_quiet (fail)
     go_wp2
     go_roundw
     case rel => exact ⟨k + 1, by omega, by go_num, all_next Hs.out He.out, hRn _ _ hRw⟩
     case measure => simp [intOf]; omega
   ·have Hk := Lib.hid (show sameRefs xs ys = true from Hall.out (fun j hj => Hs.out j (by have := HN.out; omega)))
    go_wp2
    go_ret
    exact ⟨by rw [Hk.out]; rfl, hRb _ hRw⟩
 ·have Hl := Lib.hid (sameRefs_len (xs := xs) (ys := ys) (by rw [← HN.out, ← HN'.out]; exact hl))
  go_enter Tryz.func160, Tryz.ntmps160
  go_wp2
  go_ret
  exact ⟨by rw [Hl.out]; rfl, hRb _ hR1⟩
def oddB (x r : Rep) : Bool := (x.gen == r.gen) && !sameRefs x.refs r.refs
set_option maxRecDepth 100000 in
set_option maxHeartbeats 2000000 in
theorem cluCheck1_any (x r : Rep) (sv rv ov uv : Value) (S S1 : Nat → Prop) (w : World) (h : RepIs S w x sv rv ov uv) (b : Nat) (rv2 : Value) (hr : RefsV S1 w rv2 r.refs) (hg : w.cell? ⟨b, 2, none⟩ = some (.int .i64 r.gen)) (hc : w.cell? ⟨b, 1, none⟩ = some rv2) :
  Calls Tryz.prog 159 #[repV x sv rv ov uv, .pointer (some ⟨b, 0, none⟩)] w fun e w' => e = .returned (.bool (oddB x r)) ∧ Below w.heap.size w w' := by
 have HD := Lib.hid (show oddB x r = ((x.gen == r.gen) && !sameRefs x.refs r.refs) from rfl)
 have H := Lib.hid h
 obtain ⟨sa, sc, rfl⟩ := h.store.vshape
 obtain ⟨⟨ra, rc⟩, rfl⟩ := h.refs.shape
 obtain ⟨oa, oc, rfl⟩ := h.objs.vshape
 obtain ⟨⟨ua, uc⟩, rfl⟩ := h.upds.shape
 obtain ⟨⟨ra2, rc2⟩, rfl⟩ := hr.shape
 clear h
 simp only [repV]
 obtain ⟨Q, hQ, hQ1, hy⟩ := cls_box w #[.slice sa x.store.length sc, .slice ra x.refs.length rc, .int .i64 x.gen, .int .i64 x.phase, .slice oa x.pend.objects.length oc, .slice ua x.pend.updates.length uc, .bool x.pend.force] 28
 have hQb := hQ.below
 have hQn := hQ.next
 have HE := Lib.hid (equalRefs_any x.refs r.refs _ _ _ _ _ (H.out.refs.below (hQb _ hQ1)) (hr.below (hQb _ hQ1)))
 have y1 := hy 1 _ rfl _ hQ1
 have y2 := hy 2 _ rfl _ hQ1
 have z1 := below_cell (hQb _ hQ1) hc
 have z2 := below_cell (hQb _ hQ1) hg
 clear hy hc hg hr
 generalize sameRefs x.refs r.refs = q at *
 cases q2 : (x.gen == r.gen)
 ·rw [q2, Bool.false_and] at HD
  go_enter Tryz.func159, Tryz.ntmps159
  go_wp2_with fail
  go_ret
  exact ⟨by rw [HD.out]; rfl, hQb _ hQ1⟩
 ·rw [q2, Bool.true_and] at HD
  go_enter Tryz.func159, Tryz.ntmps159
  go_wp2_with fail
  refine HE.out.mono ?_
  rintro e w1 ⟨rfl, hb1⟩
  have hQ2 := hQn _ _ hQ1 hb1
  go_wp2_with fail
  go_ret
  exact ⟨by rw [HD.out]; rfl, hQb _ hQ2⟩
def idxPC (p : Rep → Bool) (l : List Rep) : Int := match l.findIdx? p with | some i => (i : Int) | none => -1
theorem idxPC_hit {l : List Rep} {p : Rep → Bool} {k : Nat} (h : ∀ j, j < k → p (rep l j) = false) (hk : k < l.length) (he : p (rep l k) = true) : idxPC p l = k := by
 unfold idxPC
 have : l.findIdx? p = some k := by
  rw [List.findIdx?_eq_some_iff_getElem]
  refine ⟨hk, by rw [← rep_lt hk]; exact he, fun j hj => ?_⟩
  have := h j hj
  rw [rep_lt (by omega)] at this
  simp [this]
 rw [this]
theorem idxPC_none {l : List Rep} {p : Rep → Bool} (h : ∀ j, j < l.length → p (rep l j) = false) : idxPC p l = -1 := by
 unfold idxPC
 have : l.findIdx? p = none := by
  rw [List.findIdx?_eq_none_iff]
  intro x hx
  obtain ⟨i, hi, rfl⟩ := List.getElem_of_mem hx
  have := h i hi
  rwa [rep_lt hi] at this
 rw [this]
theorem idxPC_cases (p : Rep → Bool) (l : List Rep) : (idxPC p l = -1 ∧ ∀ j, j < l.length → p (rep l j) = false) ∨ ∃ k, k < l.length ∧ idxPC p l = (k : Int) ∧ p (rep l k) = true := by
 unfold idxPC
 cases h : l.findIdx? p with
 | none =>
  rw [List.findIdx?_eq_none_iff] at h
  exact .inl ⟨rfl, fun j hj => by rw [rep_lt hj]; exact h _ (List.getElem_mem hj)⟩
 | some k =>
  rw [List.findIdx?_eq_some_iff_getElem] at h
  obtain ⟨hk, he, _⟩ := h
  exact .inr ⟨k, hk, rfl, by rw [rep_lt hk]; exact he⟩
def AsksC (g : Nat) (c : Value) (p : Rep → Bool) (w : World) (l : List Rep) : Prop :=
 ∀ (x : World) (i : Nat) (S : Nat → Prop) (sv rv ov uv : Value), i < l.length → Below w.heap.size w x → RepIs S x (rep l i) sv rv ov uv → Calls Tryz.prog g #[repV (rep l i) sv rv ov uv, c] x fun e w' => e = .returned (.bool (p (rep l i))) ∧ Below x.heap.size x w'
set_option maxHeartbeats 1000000 in
theorem indexFuncC_any (l : List Rep) (v c : Value) (S : Nat → Prop) (g : Nat) (p : Rep → Bool) (w : World) (h : RepsV S w v l) (eg : ∀ args w, (callFunc g args).run Tryz.prog w = .ok (.enter g args) w) (hp : AsksC g c p w l) :
  Calls Tryz.prog 216 #[v, .func (.func g) #[] #[c]] w fun e w' => e = .returned (.int .i64 (idxPC p l)) ∧ Below w.heap.size w w' := by
 obtain ⟨a, n, cap, fr, HN, rfl, h1, h2, h3, h4, h5⟩ := h.open
 clear h
 obtain ⟨R, hR, hR1, _⟩ := cls_plain w
 have hRb := hR.below
 have hRn := hR.next
 have Hp := Lib.hid (fun x k (hk : k < n) (hx : Below w.heap.size w x) => hp x k S _ _ _ _ (by rw [← HN.out]; exact hk) hx ((h5 k hk).below hx)); clear hp h5
 simp only [repV] at Hp
 have Hh := Lib.hid (fun k h1 hk he => idxPC_hit (l := l) (p := p) (k := k) h1 (by rw [← HN.out]; exact hk) he)
 have Hn := Lib.hid (fun h1 => idxPC_none (l := l) (p := p) (by rw [← HN.out]; exact h1))
 go_enter Tryz.func216, Tryz.ntmps216
 go_wp2_with fail
 go_loopw [8] (fun i wr => ∃ k : Nat, k ≤ n ∧ i = .int .i64 k ∧ Hid (∀ j, j < k → p (rep l j) = false) ∧ In R wr) (fun i _ => n - (intOf i).toNat)
 case atStart => exact ⟨0, by omega, rfl, fun j hj => absurd hj (by omega), hR1⟩
 case round =>
  obtain ⟨k, hk, rfl, Hs, hRw⟩ := hrel
  clear hR1
  by_cases hlt : k < n
  ·obtain ⟨b, off, rfl, hb, k0, k1, k2, k3, k4, k5, k6⟩ := h4 (by omega)
   have x0 := k0 k wr hlt (hRb _ hRw)
   have x1 := k1 k wr hlt (hRb _ hRw)
   have x2 := k2 k wr hlt (hRb _ hRw)
   have x3 := k3 k wr hlt (hRb _ hRw)
   have x4 := k4 k wr hlt (hRb _ hRw)
   have x5 := k5 k wr hlt (hRb _ hRw)
   have x6 := k6 k wr hlt (hRb _ hRw)
   clear h4 k0 k1 k2 k3 k4 k5 k6
   cases hq : p (rep l k)
   ·have He := Lib.hid hq
    go_wp2_with fail
    refine (Hp.out _ k hlt (hRb _ hRw)).mono ?_
    rintro e w' ⟨rfl, hb2⟩
    rw [hq]
    have hR2 := hRn _ _ hRw hb2
    go_wp2_with fail
    go_roundw
    case rel => exact ⟨k + 1, by omega, by go_num, all_next Hs.out He.out, hR2⟩
    case measure => simp [intOf]; omega
   ·have HK := Lib.hid (Hh.out k Hs.out hlt hq)
    go_wp2_with fail
    refine (Hp.out _ k hlt (hRb _ hRw)).mono ?_
    rintro e w' ⟨rfl, hb2⟩
    rw [hq]
    have hR2 := hRn _ _ hRw hb2
    go_wp2_with fail
    go_ret
    exact ⟨ret_int HK.out.symm, hRb _ hR2⟩
  ·obtain rfl : k = n := by omega
   have HK := Lib.hid (Hn.out Hs.out)
   go_wp2_with fail
   go_ret
   exact ⟨ret_int HK.out.symm, hRb _ hRw⟩
set_option maxHeartbeats 400000 in
theorem containsFuncC_any (l : List Rep) (v c : Value) (S : Nat → Prop) (g : Nat) (p : Rep → Bool) (w : World) (h : RepsV S w v l) (eg : ∀ args w, (callFunc g args).run Tryz.prog w = .ok (.enter g args) w) (hp : AsksC g c p w l) :
  Calls Tryz.prog 158 #[v, .func (.func g) #[] #[c]] w fun e w' => e = .returned (.bool (l.any p)) ∧ Below w.heap.size w w' := by
 obtain ⟨q, qc, rfl⟩ := h.vshape
 have Hi := Lib.hid (indexFuncC_any l _ c S g p w h eg hp)
 rcases idxPC_cases p l with ⟨h0, h1⟩ | ⟨k, hk, h0, h1⟩
 ·have Ha := Lib.hid (show l.any p = false by
   rw [List.any_eq_false]
   intro x hx
   obtain ⟨i, hi, rfl⟩ := List.getElem_of_mem hx
   have := h1 i hi
   rw [rep_lt hi] at this
   simp [this])
  clear h1 hp
  go_enter Tryz.func158, Tryz.ntmps158
  go_wp2_with fail
  refine Hi.out.mono ?_
  rintro e w' ⟨rfl, hb⟩
  rw [h0]
  go_wp2_with fail
  go_ret
  exact ⟨by rw [Ha.out]; rfl, hb⟩
 ·have Ha := Lib.hid (show l.any p = true by
   rw [List.any_eq_true]
   exact ⟨rep l k, by rw [rep_lt hk]; exact List.getElem_mem hk, h1⟩)
  have hd : decide ((0 : Int) ≤ (k : Int)) = true := by simp
  clear h1 hp
  go_enter Tryz.func158, Tryz.ntmps158
  go_wp2_with fail
  refine Hi.out.mono ?_
  rintro e w' ⟨rfl, hb⟩
  rw [h0]
  go_wp2_with fail
  go_ret
  exact ⟨by rw [Ha.out]; first | rfl | simp, hb⟩
end Go.Proofs.YtjdgpgfiomnjkaaGreatDoor
namespace Go.Proofs.YtjdgpgfiomnjkaaGreatDoor
open Go.RowKit
set_option linter.unusedVariables false
set_option linter.unusedSimpArgs false
theorem RepsV.upd {S T : Nat → Prop} {w w' : World} {v : Value} {l : List Rep} (h : RepsV S w v l) (hu : Upd T w w') (hT : ∀ b, S b → ¬ T b) : RepsV S w' v l := by
 obtain ⟨vs, ⟨a, cap, hv, h1, h2, h3, h4⟩, h5⟩ := h
 refine ⟨vs, ⟨a, cap, hv, h1, h2, h3, fun hn => ?_⟩, fun i hi => RepIs.upd (h5 i hi) hu hT⟩
 obtain ⟨b, off, ha, hS, hc⟩ := h4 hn
 exact ⟨b, off, ha, hS, fun i hi j u hu2 => hu.cell (hc i hi j u hu2) (hT b hS)⟩
theorem blk_below {w w' : World} {D : Nat} {o : Go.Obj} (h : w.heap[D]? = some o) (hb : Below w.heap.size w w') : w'.heap[D]? = some o := (hb.block _ (lt_of_block h)).trans h
def BoxR (D : Nat) (w : World) (r : Rep) : Prop :=
 ∃ sa sc ra rc oa oc ua uc, w.heap[D]? = some (.cells #[.slice sa r.store.length sc, .slice ra r.refs.length rc, .int .i64 r.gen, .int .i64 r.phase, .slice oa r.pend.objects.length oc, .slice ua r.pend.updates.length uc, .bool r.pend.force] 28 (0, 0)) ∧
  RepIs (fun _ => True) w r (.slice sa r.store.length sc) (.slice ra r.refs.length rc) (.slice oa r.pend.objects.length oc) (.slice ua r.pend.updates.length uc)
theorem BoxR.below {D : Nat} {w w' : World} {r : Rep} (h : BoxR D w r) (hb : Below w.heap.size w w') : BoxR D w' r := by
 obtain ⟨sa, sc, ra, rc, oa, oc, ua, uc, h1, h2⟩ := h
 exact ⟨sa, sc, ra, rc, oa, oc, ua, uc, (hb.block _ (lt_of_block h1)).trans h1, h2.below hb⟩
def BoxC (D : Nat) (w : World) (l : List Rep) : Prop := ∃ a c, w.heap[D]? = some (.cells #[.slice a l.length c] 66 (0, 0)) ∧ RepsV (fun _ => True) w (.slice a l.length c) l
theorem BoxC.below {D : Nat} {w w' : World} {l : List Rep} (h : BoxC D w l) (hb : Below w.heap.size w w') : BoxC D w' l := by
 obtain ⟨a, c, h1, h2⟩ := h
 exact ⟨a, c, (hb.block _ (lt_of_block h1)).trans h1, h2.below hb⟩
theorem cls_new (w0 : World) : ∃ Q : World → Prop, Cls w0 Q ∧ In Q w0 ∧ ∀ x y (T : Nat → Prop), In Q x → Upd T x y → (∀ b, T b → w0.heap.size ≤ b) → In Q y :=
 ⟨_, cls_of w0 w0 w0.heap.size (Nat.le_refl _) (Nat.le_refl _) (Below.refl _ _), Below.refl _ _, fun x y T hx hu hT => Below.trans (hx : Below _ _ _) (hu.below (Below.size (hx : Below _ _ _)) hT)⟩
def BoxP (P : Nat → Prop) (D : Nat) (w : World) (r : Rep) : Prop :=
 ∃ sa sc ra rc oa oc ua uc, w.heap[D]? = some (.cells #[.slice sa r.store.length sc, .slice ra r.refs.length rc, .int .i64 r.gen, .int .i64 r.phase, .slice oa r.pend.objects.length oc, .slice ua r.pend.updates.length uc, .bool r.pend.force] 28 (0, 0)) ∧
  RepIs P w r (.slice sa r.store.length sc) (.slice ra r.refs.length rc) (.slice oa r.pend.objects.length oc) (.slice ua r.pend.updates.length uc)
theorem BoxP.below {P : Nat → Prop} {D : Nat} {w w' : World} {r : Rep} (h : BoxP P D w r) (hb : Below w.heap.size w w') : BoxP P D w' r := by
 obtain ⟨sa, sc, ra, rc, oa, oc, ua, uc, h1, h2⟩ := h
 exact ⟨sa, sc, ra, rc, oa, oc, ua, uc, blk_below h1 hb, h2.below hb⟩
theorem BoxP.upd {P T : Nat → Prop} {D : Nat} {w w' : World} {r : Rep} (h : BoxP P D w r) (hu : Upd T w w') (hD : ¬ T D) (hP : ∀ b, P b → ¬ T b) : BoxP P D w' r := by
 obtain ⟨sa, sc, ra, rc, oa, oc, ua, uc, h1, h2⟩ := h
 exact ⟨sa, sc, ra, rc, oa, oc, ua, uc, hu.blk h1 hD, RepIs.upd h2 hu hP⟩
theorem BoxP.any {P : Nat → Prop} {D : Nat} {w : World} {r : Rep} (h : BoxP P D w r) : BoxR D w r := by
 obtain ⟨sa, sc, ra, rc, oa, oc, ua, uc, h1, h2⟩ := h
 exact ⟨sa, sc, ra, rc, oa, oc, ua, uc, h1, h2.weaken fun _ _ => trivial⟩
theorem BoxP.zero (P : Nat → Prop) {D : Nat} {w : World} (h : w.heap[D]? = some (.cells #[.slice none 0 0, .slice none 0 0, .int .i64 0, .int .i64 0, .slice none 0 0, .slice none 0 0, .bool false] 28 (0, 0))) : BoxP P D w rep0 :=
 ⟨none, 0, none, 0, none, 0, none, 0, h, rep0_is _ _⟩
end Go.Proofs.YtjdgpgfiomnjkaaGreatDoor
namespace Go.Proofs.YtjdgpgfiomnjkaaGreatDoor
open Go.RowKit
set_option linter.unusedVariables false
set_option linter.unusedSimpArgs false
theorem BoxP.weaken {P P' : Nat → Prop} {D : Nat} {w : World} {r : Rep} (h : BoxP P D w r) (hP : ∀ b, P b → P' b) : BoxP P' D w r := by
 obtain ⟨sa, sc, ra, rc, oa, oc, ua, uc, h1, h2⟩ := h
 exact ⟨sa, sc, ra, rc, oa, oc, ua, uc, h1, h2.weaken hP⟩
theorem BoxP.lt {P : Nat → Prop} {D : Nat} {w : World} {r : Rep} (h : BoxP P D w r) : BoxP (fun b => P b ∧ b < w.heap.size) D w r := by
 obtain ⟨sa, sc, ra, rc, oa, oc, ua, uc, h1, h2⟩ := h
 exact ⟨sa, sc, ra, rc, oa, oc, ua, uc, h1, RepIs.lt h2⟩
theorem BoxP.dlt {P : Nat → Prop} {D : Nat} {w : World} {r : Rep} (h : BoxP P D w r) : D < w.heap.size := let ⟨_, _, _, _, _, _, _, _, h1, _⟩ := h; lt_of_block h1
def Bag (P : Nat → Prop) (w : World) : List (Nat × Rep) → Prop
 | [] => True
 | x :: l => BoxP P x.1 w x.2 ∧ Bag P w l
theorem Bag.below {P : Nat → Prop} {w w' : World} : ∀ {l : List (Nat × Rep)}, Bag P w l → Below w.heap.size w w' → Bag P w' l
 | [], _, _ => trivial
 | _ :: _, ⟨h, hs⟩, hb => ⟨h.below hb, Bag.below hs hb⟩
theorem Bag.weaken {P P' : Nat → Prop} {w : World} : ∀ {l : List (Nat × Rep)}, Bag P w l → (∀ b, P b → P' b) → Bag P' w l
 | [], _, _ => trivial
 | _ :: _, ⟨h, hs⟩, hp => ⟨h.weaken hp, Bag.weaken hs hp⟩
theorem Bag.lt {P : Nat → Prop} {w : World} : ∀ {l : List (Nat × Rep)}, Bag P w l → Bag (fun b => P b ∧ b < w.heap.size) w l
 | [], _ => trivial
 | _ :: _, ⟨h, hs⟩ => ⟨h.lt, Bag.lt hs⟩
theorem Bag.upd {P T : Nat → Prop} {w w' : World} : ∀ {l : List (Nat × Rep)}, Bag P w l → Upd T w w' → (∀ x ∈ l, ¬ T x.1) → (∀ b, P b → ¬ T b) → Bag P w' l
 | [], _, _, _, _ => trivial
 | x :: _, ⟨h, hs⟩, hu, hT, hP => ⟨h.upd hu (hT x List.mem_cons_self) hP, Bag.upd hs hu (fun y hy => hT y (List.mem_cons_of_mem _ hy)) hP⟩
def BoxQ (P : Nat → Prop) (D : Nat) (w : World) (p : Psh) : Prop :=
 ∃ oa oc ua uc, w.heap[D]? = some (.cells #[.slice oa p.objects.length oc, .slice ua p.updates.length uc, .bool p.force] 26 (0, 0)) ∧ StoreV P w (.slice oa p.objects.length oc) p.objects ∧ MvsV P w (.slice ua p.updates.length uc) p.updates
theorem BoxQ.below {P : Nat → Prop} {D : Nat} {w w' : World} {p : Psh} (h : BoxQ P D w p) (hb : Below w.heap.size w w') : BoxQ P D w' p := by
 obtain ⟨oa, oc, ua, uc, h1, h2, h3⟩ := h
 exact ⟨oa, oc, ua, uc, blk_below h1 hb, h2.below hb, h3.below hb⟩
theorem BoxQ.upd {P T : Nat → Prop} {D : Nat} {w w' : World} {p : Psh} (h : BoxQ P D w p) (hu : Upd T w w') (hD : ¬ T D) (hP : ∀ b, P b → ¬ T b) : BoxQ P D w' p := by
 obtain ⟨oa, oc, ua, uc, h1, h2, h3⟩ := h
 exact ⟨oa, oc, ua, uc, hu.blk h1 hD, h2.upd' hu hP, h3.upd hu hP⟩
theorem BoxQ.weaken {P P' : Nat → Prop} {D : Nat} {w : World} {p : Psh} (h : BoxQ P D w p) (hP : ∀ b, P b → P' b) : BoxQ P' D w p := by
 obtain ⟨oa, oc, ua, uc, h1, h2, h3⟩ := h
 exact ⟨oa, oc, ua, uc, h1, h2.weaken hP, h3.weaken hP⟩
theorem BoxQ.lt {P : Nat → Prop} {D : Nat} {w : World} {p : Psh} (h : BoxQ P D w p) : BoxQ (fun b => P b ∧ b < w.heap.size) D w p := by
 obtain ⟨oa, oc, ua, uc, h1, h2, h3⟩ := h
 exact ⟨oa, oc, ua, uc, h1, h2.lt, h3.lt⟩
end Go.Proofs.YtjdgpgfiomnjkaaGreatDoor
namespace Go.Proofs.YtjdgpgfiomnjkaaGreatDoor
open Go.RowKit
set_option linter.unusedVariables false
set_option linter.unusedSimpArgs false
def cluBad (l : List Rep) (i : Nat) : Bool := (l.take i).any fun x => oddB x (rep l i)
def badE (l : List Rep) (i : Nat) : Int := if cluBad l i = true then 4 else 0
def cluE (l : List Rep) : Int :=
 if l.length ≠ 3 then 1 else if scan (fun i => repCheck (rep l i)) 3 ≠ 0 then scan (fun i => repCheck (rep l i)) 3 else if scan (badE l) 3 ≠ 0 then 4 else if 2 * (many l : Int) ≤ 3 then 4 else 0
theorem cluE_check {l : List Rep} (hl : l.length = 3) {k : Nat} {e : Int} (h0 : scan (fun i => repCheck (rep l i)) k = 0) (hk : k < 3) (he : repCheck (rep l k) = e) (hne : e ≠ 0) : cluE l = e := by
 have h := scan_hit (f := fun i => repCheck (rep l i)) h0 (by show repCheck (rep l k) ≠ 0; rw [he]; exact hne) hk
 unfold cluE
 rw [if_neg (by omega), if_pos (by rw [h]; show repCheck (rep l k) ≠ 0; rw [he]; exact hne), h]; exact he
theorem cluE_bad {l : List Rep} (hl : l.length = 3) {k : Nat} (h0 : scan (fun i => repCheck (rep l i)) 3 = 0) (h1 : scan (badE l) k = 0) (hk : k < 3) (hb : cluBad l k = true) : cluE l = 4 := by
 have e : badE l k = 4 := by unfold badE; rw [if_pos hb]
 have h := scan_hit (f := badE l) h1 (by rw [e]; decide) hk
 unfold cluE
 rw [if_neg (by omega), if_neg (by simpa using h0), if_pos (by rw [h, e]; decide)]
theorem cluE_few {l : List Rep} (hl : l.length = 3) (h0 : scan (fun i => repCheck (rep l i)) 3 = 0) (h1 : scan (badE l) 3 = 0) : cluE l = if 2 * (many l : Int) ≤ 3 then 4 else 0 := by
 unfold cluE
 rw [if_neg (by omega), if_neg (by simpa using h0), if_neg (by simpa using h1)]
theorem cluE_zero {l : List Rep} (h : cluE l = 0) : l.length = 3 ∧ (∀ i, i < 3 → repCheck (rep l i) = 0) ∧ (∀ i, i < 3 → cluBad l i = false) ∧ 3 < 2 * (many l : Int) := by
 unfold cluE at h
 split at h
 ·cases h
 ·rename_i h3
  split at h
  ·rename_i h4; exact absurd h h4
  ·rename_i h4
   split at h
   ·cases h
   ·rename_i h5
    split at h
    ·cases h
    ·rename_i h6
     refine ⟨by omega, fun i hi => scan_zero (f := fun i => repCheck (rep l i)) (by simpa using h4) i hi, fun i hi => ?_, by omega⟩
     have := scan_zero (f := badE l) (by simpa using h5) i hi
     unfold badE at this
     cases hb : cluBad l i
     ·rfl
     ·rw [hb] at this; cases this
theorem cluE_form {l : List Rep} (hl : l.length ≠ 3) : cluE l = 1 := by unfold cluE; rw [if_pos hl]
theorem bad_next {l : List Rep} {k : Nat} (h : scan (badE l) k = 0) (hb : cluBad l k = false) : scan (badE l) (k + 1) = 0 := scan_next h (by unfold badE; rw [hb]; rfl)
def cnt (l : List Rep) (g : Int) : Nat → Nat
 | 0 => 0
 | k + 1 => cnt l g k + if (rep l k).gen = g then 1 else 0
theorem cnt_none {l : List Rep} {g : Int} : ∀ {k : Nat}, (∀ i, i < k → (rep l i).gen ≠ g) → cnt l g k = 0
 | 0, _ => rfl
 | k + 1, h => by unfold cnt; rw [cnt_none (fun i hi => h i (by omega)), if_neg (h k (by omega))]
theorem best_inv (l : List Rep) : ∀ k, (∀ i, i < k → (rep l i).gen ≤ (rep l (bestTo l k).1).gen) ∧ (bestTo l k).2 = cnt l (rep l (bestTo l k).1).gen k
 | 0 => ⟨fun i hi => absurd hi (by omega), rfl⟩
 | k + 1 => by
  obtain ⟨h1, h2⟩ := best_inv l k
  unfold bestTo
  by_cases hg : k = 0 ∨ (rep l (bestTo l k).1).gen < (rep l k).gen
  ·rw [if_pos hg]
   have hlt : ∀ i, i < k → (rep l i).gen < (rep l k).gen := fun i hi => by
    rcases hg with h | h
    ·omega
    ·exact Int.lt_of_le_of_lt (h1 i hi) h
   refine ⟨fun i hi => ?_, ?_⟩
   ·by_cases e : i = k
    ·subst e; exact Int.le_refl _
    ·exact Int.le_of_lt (hlt i (by omega))
   ·show 1 = cnt l (rep l k).gen (k + 1)
    unfold cnt
    rw [cnt_none (fun i hi => by have := hlt i hi; omega), if_pos rfl]
  ·rw [if_neg hg]
   have hle : (rep l k).gen ≤ (rep l (bestTo l k).1).gen := by
    rcases Int.lt_or_le (rep l (bestTo l k).1).gen (rep l k).gen with h | h
    ·exact absurd (.inr h) hg
    ·exact h
   by_cases he : (rep l k).gen = (rep l (bestTo l k).1).gen
   ·rw [if_pos he]
    refine ⟨fun i hi => ?_, ?_⟩
    ·by_cases e : i = k
     ·subst e; exact hle
     ·exact h1 i (by omega)
    ·show (bestTo l k).2 + 1 = cnt l (rep l (bestTo l k).1).gen (k + 1)
     unfold cnt; rw [if_pos he, ← h2]
   ·rw [if_neg he]
    refine ⟨fun i hi => ?_, ?_⟩
    ·by_cases e : i = k
     ·subst e; exact hle
     ·exact h1 i (by omega)
    ·show (bestTo l k).2 = cnt l (rep l (bestTo l k).1).gen (k + 1)
     unfold cnt; rw [if_neg he, ← h2, Nat.add_zero]
theorem many_cnt (l : List Rep) : many l = cnt l (rep l (best l)).gen l.length := (best_inv l l.length).2
theorem best_lt {l : List Rep} (h : 0 < l.length) : best l < l.length := by have := bestTo_lt l l.length; unfold best; omega
theorem oddB_comm (x y : Rep) : oddB x y = oddB y x := by
 unfold oddB
 have e1 : (x.gen == y.gen) = (y.gen == x.gen) := by rw [Bool.eq_iff_iff, beq_iff_eq, beq_iff_eq]; exact eq_comm
 have e2 : sameRefs x.refs y.refs = sameRefs y.refs x.refs := by rw [Bool.eq_iff_iff, sameRefs_iff, sameRefs_iff]; exact eq_comm
 rw [e1, e2]
theorem rep_take {l : List Rep} {i j : Nat} (h : j < i) : rep (l.take i) j = rep l j := by
 unfold rep at_; simp only [List.getD_eq_getElem?_getD, List.getElem?_take, if_pos h]
theorem bad_at {l : List Rep} {i k : Nat} (hi : i ≤ l.length) (hk : k < i) (h : oddB (rep l i) (rep l k) = true) : cluBad l i = true := by
 unfold cluBad
 rw [List.any_eq_true]
 have hl : k < (l.take i).length := by rw [List.length_take]; omega
 exact ⟨rep l k, by rw [← rep_take hk, rep_lt hl]; exact List.getElem_mem hl, by rw [oddB_comm]; exact h⟩
theorem bad_not {l : List Rep} {i : Nat} (hi : i ≤ l.length) (h : ∀ k, k < i → oddB (rep l i) (rep l k) = false) : cluBad l i = false := by
 unfold cluBad
 rw [List.any_eq_false]
 intro x hx
 obtain ⟨k, hk, rfl⟩ := List.getElem_of_mem hx
 have hk' : k < i := by rw [List.length_take] at hk; omega
 rw [← rep_lt hk, rep_take hk', oddB_comm, h k hk']; simp
set_option maxRecDepth 100000 in
set_option maxHeartbeats 4000000 in
theorem cluCheck_any (l : List Rep) (v : Value) (S : Nat → Prop) (w : World) (h : RepsV S w v l) :
  Calls Tryz.prog 99 #[.agg #[v]] w fun e w' => e = .returned (.int .i64 (cluE l)) ∧ Below w.heap.size w w' := by
 have h' := h
 obtain ⟨a, n, cap, fr, HN, rfl, h1, h2, h3, h4, h5⟩ := h.open
 obtain ⟨R, hR, hR1, HB0⟩ := cls_allocs w [.cells #[.slice a n cap] 66]
 simp only [List.foldl] at hR1
 have hRb := hR.below
 have hRn := hR.next
 have c0 := fun x (hx : In R x) => block_cell (j := 0) (HB0 x hx 0 _ rfl) rfl
 simp only [Nat.add_zero] at c0
 clear HB0
 have cc := c0 _ hR1
 by_cases hn3 : n = 3
 case neg =>
  have HE := Lib.hid (cluE_form (l := l) (by rw [← HN.out]; exact hn3))
  have hq : ((n : Int) != 3) = true := by simpa using (show (n : Int) ≠ 3 by omega)
  clear hn3 h h'
  go_enter Tryz.func99, Tryz.ntmps99
  go_wp2_with fail
  go_ret
  exact ⟨ret_int HE.out.symm, hRb _ hR1⟩
 case pos =>
  subst hn3
  have hl3 : l.length = 3 := HN.out.symm
  have HA := Lib.hid (fun k e h0 (hk : k < 3) he hne => cluE_check (l := l) (k := k) (e := e) hl3 h0 hk he hne)
  have HB := Lib.hid (fun k h0 h1 (hk : k < 3) hb => cluE_bad (l := l) (k := k) hl3 h0 h1 hk hb)
  have HF := Lib.hid (fun h0 h1 => cluE_few (l := l) hl3 h0 h1)
  have H := Lib.hid h'
  have Hl3 := Lib.hid hl3
  clear h h' hl3
  go_enter Tryz.func99, Tryz.ntmps99
  go_wp2_with fail
  clear cc
  go_loopw [17] (fun i wr => ∃ k : Nat, k ≤ 3 ∧ i = .int .i64 k ∧ Hid (scan (fun i => repCheck (rep l i)) k = 0) ∧ In R wr) (fun i _ => 3 - (intOf i).toNat)
  case atStart => exact ⟨0, by omega, rfl, rfl, hR1⟩
  case round =>
   obtain ⟨k, hk, rfl, Hs, hRw⟩ := hrel
   clear hR1
   by_cases hlt : k < 3
   ·obtain ⟨b, off, rfl, hb, k0, k1, k2, k3, k4, k5, k6⟩ := h4 (by omega)
    have x0 := k0 k wr hlt (hRb _ hRw)
    have x1 := k1 k wr hlt (hRb _ hRw)
    have x2 := k2 k wr hlt (hRb _ hRw)
    have x3 := k3 k wr hlt (hRb _ hRw)
    have x4 := k4 k wr hlt (hRb _ hRw)
    have x5 := k5 k wr hlt (hRb _ hRw)
    have x6 := k6 k wr hlt (hRb _ hRw)
    obtain ⟨Q, hQ, hQ1, hy⟩ := cls_box wr #[.slice (fr k).sa (rep l k).store.length (fr k).sc, .slice (fr k).ra (rep l k).refs.length (fr k).rc, .int .i64 (rep l k).gen, .int .i64 (rep l k).phase, .slice (fr k).oa (rep l k).pend.objects.length (fr k).oc, .slice (fr k).ua (rep l k).pend.updates.length (fr k).uc, .bool (rep l k).pend.force] 28
    have y0 := hy 0 _ rfl _ hQ1
    have y1 := hy 1 _ rfl _ hQ1
    have y2 := hy 2 _ rfl _ hQ1
    have y3 := hy 3 _ rfl _ hQ1
    have y4 := hy 4 _ rfl _ hQ1
    have y5 := hy 5 _ rfl _ hQ1
    have y6 := hy 6 _ rfl _ hQ1
    have hR2 := hRn _ _ hRw (hQ.below _ hQ1)
    have hi1 : (0 : Int) ≤ (k : Int) := by omega
    have hi2 : (k : Int) < (3 : Int) := by omega
    have HC := Lib.hid (repCheck_any (rep l k) _ _ _ _ _ _ ((h5 k hlt).below (hRb _ hR2)))
    simp only [repV] at HC
    clear hy hQ1 hQ h4 h5 k0 k1 k2 k3 k4 k5 k6
    by_cases hz : repCheck (rep l k) = 0
    ·have Hz := Lib.hid hz
     rw [hz] at HC
     clear hz
     go_wp2_with fail
     refine HC.out.mono ?_
     rintro e w1 ⟨rfl, hb1⟩
     have hR3 := hRn _ _ hR2 hb1
     go_wp2_with fail
     go_roundw
     case rel => exact ⟨k + 1, by omega, by go_num, scan_next Hs.out Hz.out, hR3⟩
     case measure => simp [intOf]; omega
    ·have HE := Lib.hid (HA.out k _ Hs.out hlt rfl hz)
     have hq : (repCheck (rep l k) != 0) = true := by simpa using hz
     clear hz
     generalize repCheck (rep l k) = c at *
     go_wp2_with fail
     refine HC.out.mono ?_
     rintro e w1 ⟨rfl, hb1⟩
     have hR3 := hRn _ _ hR2 hb1
     go_wp2_with fail
     go_ret
     exact ⟨ret_int HE.out.symm, hRb _ hR3⟩
   ·obtain rfl : k = 3 := by omega
    have cc := c0 _ hRw
    rw [show ((3 : Nat) : Int) = 3 from rfl]
    go_wp2_with fail
    clear cc
    go_loopw [30] (fun i wx => ∃ k : Nat, k ≤ 3 ∧ i = .int .i64 k ∧ Hid (scan (badE l) k = 0) ∧ In R wx) (fun i _ => 3 - (intOf i).toNat)
    case atStart => exact ⟨0, by omega, rfl, rfl, hRw⟩
    case round =>
     obtain ⟨k, hk2, rfl, Ht, hRx⟩ := hrel
     clear hRw
     by_cases hlt : k < 3
     ·have h5k := h5 k hlt
      obtain ⟨b, off, rfl, hb, k0, k1, k2, k3, k4, k5, k6⟩ := h4 (by omega)
      have x0 := k0 k wr hlt (hRb _ hRx)
      have x1 := k1 k wr hlt (hRb _ hRx)
      have x2 := k2 k wr hlt (hRb _ hRx)
      have x3 := k3 k wr hlt (hRb _ hRx)
      have x4 := k4 k wr hlt (hRb _ hRx)
      have x5 := k5 k wr hlt (hRb _ hRx)
      have x6 := k6 k wr hlt (hRb _ hRx)
      obtain ⟨Q, hQ, hQ1, hy⟩ := cls_box wr #[.slice (fr k).sa (rep l k).store.length (fr k).sc, .slice (fr k).ra (rep l k).refs.length (fr k).rc, .int .i64 (rep l k).gen, .int .i64 (rep l k).phase, .slice (fr k).oa (rep l k).pend.objects.length (fr k).oc, .slice (fr k).ua (rep l k).pend.updates.length (fr k).uc, .bool (rep l k).pend.force] 28
      have hQb := hQ.below
      have hQR : ∀ x, In Q x → In R x := fun x hx => hRn _ _ hRx (hQb x hx)
      have Hy1 := Lib.hid (hy 1 _ rfl)
      have Hy2 := Lib.hid (hy 2 _ rfl)
      have hR2 := hQR _ hQ1
      have hi1 : (0 : Int) ≤ (k : Int) := by omega
      have hi2 : (k : Int) < (3 : Int) := by omega
      have hi3 : (k : Int) ≤ (cap : Int) := by omega
      have c1 := c0 _ hR2
      have HAp := Lib.hid (show AsksC 159 (.pointer (some ⟨wr.heap.size, 0, none⟩)) (fun x => oddB x (rep l k)) (wr.alloc (.cells #[.slice (fr k).sa (rep l k).store.length (fr k).sc, .slice (fr k).ra (rep l k).refs.length (fr k).rc, .int .i64 (rep l k).gen, .int .i64 (rep l k).phase, .slice (fr k).oa (rep l k).pend.objects.length (fr k).oc, .slice (fr k).ua (rep l k).pend.updates.length (fr k).uc, .bool (rep l k).pend.force] 28)) (l.take k) from
       fun x i S2 sv rv ov uv hi hx hr => cluCheck1_any _ (rep l k) sv rv ov uv _ _ x hr wr.heap.size _ (h5k.refs.below (hRb _ (hQR _ (hQ.next _ _ hQ1 hx)))) (Hy2.out x (hQ.next _ _ hQ1 hx)) (Hy1.out x (hQ.next _ _ hQ1 hx)))
      have HCf := Lib.hid (containsFuncC_any (l.take k) _ _ S _ _ _ ((H.out.take (i := k) (by have := Hl3.out; omega)).below (hRb _ hR2)) (fun _ _ => rfl) HAp.out)
      have HCf : Hid (Calls _ _ _ _ fun e w' => e = .returned (.bool (cluBad l k)) ∧ Below _ _ w') := HCf
      clear hy hQ1 hQ h4 h5 k0 k1 k2 k3 k4 k5 k6 HAp Hy1 Hy2 h5k hQb hQR
      cases hb : cluBad l k
      ·have Hn := Lib.hid (bad_next Ht.out hb)
       rw [hb] at HCf
       go_wp2_with fail
       refine HCf.out.mono ?_
       rintro e w1 ⟨rfl, hb1⟩
       have hR3 := hRn _ _ hR2 hb1
       go_wp2_with fail
       go_roundw
       case rel => exact ⟨k + 1, by omega, by go_num, Hn.out, hR3⟩
       case measure => simp [intOf]; omega
      ·have HE := Lib.hid (HB.out k Hs.out Ht.out hlt hb)
       rw [hb] at HCf
       go_wp2_with fail
       refine HCf.out.mono ?_
       rintro e w1 ⟨rfl, hb1⟩
       have hR3 := hRn _ _ hR2 hb1
       go_wp2_with fail
       go_ret
       exact ⟨ret_int HE.out.symm, hRb _ hR3⟩
     ·obtain rfl : k = 3 := by omega
      have cc := c0 _ hRx
      have HBe := Lib.hid (best_any l _ _ _ (H.out.below (hRb _ hRx)))
      have HE := Lib.hid (HF.out Hs.out Ht.out)
      have hmm := bestTo_many l l.length
      have Hml := Lib.hid (show many l ≤ 3 by have := Hl3.out; unfold many; omega)
      clear hmm HB HA HF
      generalize many l = m at *
      have hml := Hml.out
      have hw1 := wrap_in (n := 2 * (m : Int)) (by omega)
      by_cases hm : 2 * (m : Int) ≤ 3
      ·rw [if_pos hm] at HE
       have hd : decide (2 * (m : Int) ≤ 3) = true := decide_eq_true hm
       clear hm
       go_wp2_with fail
       refine HBe.out.mono ?_
       rintro e w1 ⟨rfl, hb1⟩
       have hR3 := hRn _ _ hRx hb1
       go_wp2_with fail
       go_ret
       exact ⟨ret_int HE.out.symm, hRb _ hR3⟩
      ·rw [if_neg hm] at HE
       have hd : decide (2 * (m : Int) ≤ 3) = false := decide_eq_false hm
       clear hm
       go_wp2_with fail
       refine HBe.out.mono ?_
       rintro e w1 ⟨rfl, hb1⟩
       have hR3 := hRn _ _ hRx hb1
       go_wp2_with fail
       go_ret
       exact ⟨ret_int HE.out.symm, hRb _ hR3⟩
def newN (l : List Rep) : Int := if cluE l = 0 then (best l : Int) else 0
set_option maxRecDepth 100000 in
set_option maxHeartbeats 2000000 in
theorem newest_any (l : List Rep) (v : Value) (S : Nat → Prop) (w : World) (h : RepsV S w v l) :
  Calls Tryz.prog 48 #[.agg #[v]] w fun e w' => e = .returned (.tuple #[.int .i64 (newN l), .int .i64 (cluE l)]) ∧ Below w.heap.size w w' := by
 have HN := Lib.hid (show newN l = if cluE l = 0 then (best l : Int) else 0 from rfl)
 have H := Lib.hid h
 obtain ⟨a, cap, rfl⟩ := h.vshape
 obtain ⟨R, hR, hR1, HB0⟩ := cls_allocs w [.cells #[.slice a l.length cap] 66]
 simp only [List.foldl] at hR1
 have hRb := hR.below
 have hRn := hR.next
 have c0 := fun x (hx : In R x) => block_cell (j := 0) (HB0 x hx 0 _ rfl) rfl
 simp only [Nat.add_zero] at c0
 have cc := c0 _ hR1
 have HC := Lib.hid (cluCheck_any l _ _ _ (H.out.below (hRb _ hR1)))
 have HB := Lib.hid (fun x (hx : In R x) => best_any l _ _ x (H.out.below (hRb _ hx)))
 clear HB0 h
 by_cases hz : cluE l = 0
 ·rw [if_pos hz] at HN
  rw [hz] at HC ⊢
  clear hz
  go_enter Tryz.func48, Tryz.ntmps48
  go_wp2_with fail
  refine HC.out.mono ?_
  rintro e w1 ⟨rfl, hb1⟩
  have hR2 := hRn _ _ hR1 hb1
  have c1 := c0 _ hR2
  go_wp2_with fail
  refine (HB.out _ hR2).mono ?_
  rintro e w2 ⟨rfl, hb2⟩
  have hR3 := hRn _ _ hR2 hb2
  go_wp2_with fail
  refine bodyPost_ret (v := .tuple #[.int .i64 (best l), .int .i64 0]) (by simp [results, Tryz.results48, go_sem] <;> rfl) rfl ?_
  exact ⟨by rw [HN.out], hRb _ hR3⟩
 ·rw [if_neg hz] at HN
  have hq : (cluE l != 0) = true := by simpa using hz
  clear hz
  generalize cluE l = c at *
  go_enter Tryz.func48, Tryz.ntmps48
  go_wp2_with fail
  refine HC.out.mono ?_
  rintro e w1 ⟨rfl, hb1⟩
  have hR2 := hRn _ _ hR1 hb1
  go_wp2_with fail
  refine bodyPost_ret (v := .tuple #[.int .i64 0, .int .i64 c]) (by simp [results, Tryz.results48, go_sem] <;> rfl) rfl ?_
  exact ⟨by rw [HN.out], hRb _ hR2⟩
end Go.Proofs.YtjdgpgfiomnjkaaGreatDoor
