
/- CluA: CluA, CluB, BoxR, Bag. -/
import Derived.Test.YtjdgpgfiomnjkaaGreatDoorQ19
import Derived.Test.YtjdgpgfiomnjkaaGreatDoorQ0
import Derived.Test.YtjdgpgfiomnjkaaGreatDoorQ8
import Derived.Test.YtjdgpgfiomnjkaaGreatDoorQ10
import Derived.Test.YtjdgpgfiomnjkaaGreatDoorQ17
namespace Go.Proofs.YtjdgpgfiomnjkaaGreatDoor
open Go.RowKit
set_option linter.unusedVariables false
set_option linter.unusedSimpArgs false
set_option linter.unusedSectionVars false
variable [Ghost]
theorem StoreV.bytes {S : Nat → Prop} {w : World} {v : Value} {l : List Obj} (h : StoreV S w v l) : l.length * 56 ≤ 140737488351232 :=
 let ⟨_, ⟨_, _, _, _, _, h3, _⟩, _⟩ := h; h3
def PshAt (S : Nat → Prop) (w : World) (p : Psh) (ov uv : Value) : Prop := StoreV S w ov p.objects ∧ MvsV S w uv p.updates
theorem PshAt.below {S : Nat → Prop} {w w' : World} {p : Psh} {ov uv : Value} (h : PshAt S w p ov uv) (hb : Below w.heap.size w w') : PshAt S w' p ov uv := ⟨h.1.below hb, h.2.below hb⟩
set_option maxRecDepth 100000 in
set_option maxHeartbeats 2000000 in
theorem pushOwn_any (p : Psh) (ov uv : Value) (S S1 : Nat → Prop) (w : World) (ho : StoreV S w ov p.objects) (hu : MvsV S1 w uv p.updates) :
  Calls Tryz.prog 78 #[pshV p ov uv] w fun e w' => RetPsh w w' e p := by
 have H := Lib.hid (And.intro ho hu)
 obtain ⟨oa, oc, rfl⟩ := ho.vshape
 obtain ⟨⟨ua, uc⟩, rfl⟩ := hu.shape
 have h56 := ho.bytes
 have h32 := hu.bytes
 clear ho hu
 simp only [pshV]
 obtain ⟨Q, hQ, hQ1, HB0⟩ := cls_allocs w [.cells #[.slice oa p.objects.length oc, .slice ua p.updates.length uc, .bool p.force] 26, .cells #[.slice none 0 0, .slice none 0 0, .bool false] 26]
 simp only [List.foldl] at hQ1
 have hQn := hQ.next
 have hQb := hQ.below
 have HZ := Lib.hid (fun x (hx : In Q x) => HB0 x hx 1 _ rfl)
 have HN := Lib.hid (fun x (hx : In Q x) => show w.heap.size + 2 ≤ x.heap.size from lt_of_block (HB0 x hx 1 _ rfl))
 have HS : ∀ x, In Q x → (fun x : World => x.cell? ⟨w.heap.size, 0, none⟩ = some (.slice oa p.objects.length oc) ∧ x.cell? ⟨w.heap.size, 1, none⟩ = some (.slice ua p.updates.length uc) ∧ x.cell? ⟨w.heap.size, 2, none⟩ = some (.bool p.force)) x := fun x hx => ⟨block_cell (j := 0) (HB0 x hx 0 _ rfl) rfl, block_cell (j := 1) (HB0 x hx 0 _ rfl) rfl, block_cell (j := 2) (HB0 x hx 0 _ rfl) rfl⟩
 have HA := Lib.hid (fun x (hx : In Q x) => storeOwn_any p.objects _ _ x (H.out.1.below (hQb _ hx)))
 have HU := Lib.hid (fun x (hx : In Q x) => cloneMvs_any p.updates _ _ x (H.out.2.below (hQb _ hx)))
 clear HB0
 go_enter Tryz.func78, Tryz.ntmps78
 go_wp2_with fail
 refine wp_region_held (S := (fun x : World => x.cell? ⟨w.heap.size, 0, none⟩ = some (.slice oa p.objects.length oc) ∧ x.cell? ⟨w.heap.size, 1, none⟩ = some (.slice ua p.updates.length uc) ∧ x.cell? ⟨w.heap.size, 2, none⟩ = some (.bool p.force))) (by kernel_rfl) ?_
 change wpAnyH _ _ _ _ _ _ _ _ (World.drew _)
 have hC0 := hQ.drew _ hQ1
 generalize ((w.alloc _).alloc _).drew = x0 at hC0 ⊢
 clear hQ1
 have hS0 := HS _ hC0
 refine wpAnyH_take (i := 0) (v := .pointer (some ⟨w.heap.size, 0, none⟩)) rfl (by kernel_rfl) (by kernel_rfl) (by kernel_rfl) (fun _ _ _ h => h) (Or.inl ⟨by rfl, fun w hSw => ?_⟩) hS0 ?_
 ·go_simp
 simp only [Act.put, List.setIfInBounds_toArray, List.set_cons_zero, List.set_cons_succ]
 refine wpAnyH_take (i := 1) (v := .slice oa p.objects.length oc) rfl (by kernel_rfl) (by kernel_rfl) (by kernel_rfl) (fun _ _ _ h => h) (Or.inl ⟨by rfl, fun w hSw => ?_⟩) hS0 ?_
 ·have yy := hSw.1; go_simp
 simp only [Act.put, List.setIfInBounds_toArray, List.set_cons_zero, List.set_cons_succ]
 refine wpAnyH_take (i := 3) (v := .pointer (some ⟨w.heap.size, 1, none⟩)) rfl (by kernel_rfl) (by kernel_rfl) (by kernel_rfl) (fun _ _ _ h => h) (Or.inl ⟨by rfl, fun w hSw => ?_⟩) hS0 ?_
 ·go_simp
 simp only [Act.put, List.setIfInBounds_toArray, List.set_cons_zero, List.set_cons_succ]
 refine wpAnyH_take (i := 4) (v := .slice ua p.updates.length uc) rfl (by kernel_rfl) (by kernel_rfl) (by kernel_rfl) (fun _ _ _ h => h) (Or.inl ⟨by rfl, fun w hSw => ?_⟩) hS0 ?_
 ·have yy := hSw.2.1; go_simp
 simp only [Act.put, List.setIfInBounds_toArray, List.set_cons_zero, List.set_cons_succ]
 refine wpAnyH_take (i := 6) (v := .pointer (some ⟨w.heap.size, 2, none⟩)) rfl (by kernel_rfl) (by kernel_rfl) (by kernel_rfl) (fun _ _ _ h => h) (Or.inl ⟨by rfl, fun w hSw => ?_⟩) hS0 ?_
 ·go_simp
 simp only [Act.put, List.setIfInBounds_toArray, List.set_cons_zero, List.set_cons_succ]
 refine wpAnyH_take (i := 7) (v := .bool p.force) rfl (by kernel_rfl) (by kernel_rfl) (by kernel_rfl) (fun _ _ _ h => h) (Or.inl ⟨by rfl, fun w hSw => ?_⟩) hS0 ?_
 ·have yy := hSw.2.2; go_simp
 simp only [Act.put, List.setIfInBounds_toArray, List.set_cons_zero, List.set_cons_succ]
 refine wpAnyH_all (rs := [2]) (by kernel_rfl) (by simp) (fun j hj => ?_)
 obtain rfl : j = 2 := by simpa using hj
 refine Or.inl ?_
 go_wp2_with fail
 refine (HA.out _ hC0).mono ?_
 rintro e x1 ⟨vA, rfl, hvA, hb2⟩
 have hC1 := hQn _ _ hC0 hb2
 have hs0 := HN.out _ hC0
 obtain ⟨a1, c1, rfl⟩ := hvA.gath.shape
 have HvA := Lib.hid ((hvA.store h56).weaken (S' := fun b => w.heap.size + 2 ≤ b) (fun b hb => by omega))
 clear hvA
 clear hb2
 have hS1 := HS _ hC1
 go_simp
 refine wpAnyH_all (rs := [5]) (by kernel_rfl) (by simp) (fun j hj => ?_)
 obtain rfl : j = 5 := by simpa using hj
 refine Or.inl ?_
 go_wp2_with fail
 refine (HU.out _ hC1).mono ?_
 rintro e x2 ⟨vU, rfl, hvU, hb5⟩
 have hC2 := hQn _ _ hC1 hb5
 have hs1 := HN.out _ hC1
 obtain ⟨a2, c2, rfl⟩ := hvU.shape
 have HvU := Lib.hid ((hvU.mvs h32).weaken (S' := fun b => w.heap.size + 2 ≤ b) (fun b hb => by omega))
 clear hvU
 replace HvA := Lib.hid (HvA.out.below hb5)
 clear hb5
 have hS2 := HS _ hC2
 go_simp
 refine wpAnyH_all (rs := [8]) (by kernel_rfl) (by simp) (fun j hj => ?_)
 obtain rfl : j = 8 := by simpa using hj
 refine Or.inl ?_
 go_simp
 refine wpAnyH_all (rs := [9]) (by kernel_rfl) (by simp) (fun j hj => ?_)
 obtain rfl : j = 9 := by simpa using hj
 refine Or.inl ?_
 have hblk := HZ.out _ hC2
 have g0 := block_cell (j := 0) hblk rfl
 have g1 := block_cell (j := 1) hblk rfl
 have g2 := block_cell (j := 2) hblk rfl
 have f0 := block_free (j := 0) hblk
 have f1 := block_free (j := 1) hblk
 have f2 := block_free (j := 2) hblk
 have hb3 := set3_is (v0 := .slice a1 p.objects.length c1) (v1 := .slice a2 p.updates.length c2) (v2 := .bool p.force) hblk
 have hu3 := set3_upd (w.heap.size + 1) (.slice a1 p.objects.length c1) (.slice a2 p.updates.length c2) (.bool p.force) x2
 have Hb3 := Lib.hid hb3
 have Hu3 := Lib.hid hu3
 clear hb3 hu3
 go_wp2_with fail
 refine ⟨by kernel_rfl, ?_⟩
 change Exit.then _ _ _ _ (set3 (w.heap.size + 1) (.slice a1 p.objects.length c1) (.slice a2 p.updates.length c2) (.bool p.force) x2)
 have hb3 := Hb3.out
 have hu3 := Hu3.out
 clear Hb3 Hu3
 generalize set3 (w.heap.size + 1) (.slice a1 p.objects.length c1) (.slice a2 p.updates.length c2) (.bool p.force) x2 = w3 at *
 have k0 := block_cell (j := 0) hb3 rfl
 have k1 := block_cell (j := 1) hb3 rfl
 have k2 := block_cell (j := 2) hb3 rfl
 clear g0 g1 g2 f0 f1 f2 hblk hb3
 have hsz := (hQb _ hC2).size
 have hB3 : Below w.heap.size w w3 := (hQb _ hC2).trans (hu3.below (B := w.heap.size) hsz (fun b hb => by omega))
 go_wp2_with fail
 refine bodyPost_ret (v := .agg #[.slice a1 p.objects.length c1, .slice a2 p.updates.length c2, .bool p.force]) (by simp [results, Tryz.results78, go_sem]; simp [k0, k1, k2] <;> rfl) rfl ?_
 exact ⟨_, _, rfl, (HvA.out.upd' hu3 (fun b hb e => by omega)).weaken fun b hb => by omega, (HvU.out.upd hu3 (fun b hb e => by omega)).weaken fun b hb => by omega, hB3⟩
set_option maxRecDepth 100000 in
set_option maxHeartbeats 4000000 in
theorem repOwn_any (r : Rep) (sv rv ov uv : Value) (S : Nat → Prop) (w : World) (h : RepIs S w r sv rv ov uv) :
  Calls Tryz.prog 140 #[repV r sv rv ov uv] w fun e w' => RetRep w w' e r := by
 have H := Lib.hid h
 have h56 := h.store.bytes
 have h24 := h.refs.bytes
 obtain ⟨sa, sc, rfl⟩ := h.store.vshape
 obtain ⟨⟨ra, rc⟩, rfl⟩ := h.refs.shape
 obtain ⟨oa, oc, rfl⟩ := h.objs.vshape
 obtain ⟨⟨ua, uc⟩, rfl⟩ := h.upds.shape
 clear h
 simp only [repV]
 obtain ⟨Q, hQ, hQ1, HB0⟩ := cls_allocs w [.cells #[.slice sa r.store.length sc, .slice ra r.refs.length rc, .int .i64 r.gen, .int .i64 r.phase, .slice oa r.pend.objects.length oc, .slice ua r.pend.updates.length uc, .bool r.pend.force] 28, .cells #[.slice none 0 0, .slice none 0 0, .int .i64 0, .int .i64 0, .slice none 0 0, .slice none 0 0, .bool false] 28]
 simp only [List.foldl] at hQ1
 have hQn := hQ.next
 have hQb := hQ.below
 have HZ := Lib.hid (fun x (hx : In Q x) => HB0 x hx 1 _ rfl)
 have HN := Lib.hid (fun x (hx : In Q x) => show w.heap.size + 2 ≤ x.heap.size from lt_of_block (HB0 x hx 1 _ rfl))
 have HS : ∀ x, In Q x → (fun x : World => x.cell? ⟨w.heap.size, 0, none⟩ = some (.slice sa r.store.length sc) ∧ x.cell? ⟨w.heap.size, 1, none⟩ = some (.slice ra r.refs.length rc) ∧ x.cell? ⟨w.heap.size, 2, none⟩ = some (.int .i64 r.gen) ∧ x.cell? ⟨w.heap.size, 3, none⟩ = some (.int .i64 r.phase) ∧ x.cell? ⟨w.heap.size, 4, none⟩ = some (.slice oa r.pend.objects.length oc) ∧ x.cell? ⟨w.heap.size, 5, none⟩ = some (.slice ua r.pend.updates.length uc) ∧ x.cell? ⟨w.heap.size, 6, none⟩ = some (.bool r.pend.force)) x := fun x hx => ⟨block_cell (j := 0) (HB0 x hx 0 _ rfl) rfl, block_cell (j := 1) (HB0 x hx 0 _ rfl) rfl, block_cell (j := 2) (HB0 x hx 0 _ rfl) rfl, block_cell (j := 3) (HB0 x hx 0 _ rfl) rfl, block_cell (j := 4) (HB0 x hx 0 _ rfl) rfl, block_cell (j := 5) (HB0 x hx 0 _ rfl) rfl, block_cell (j := 6) (HB0 x hx 0 _ rfl) rfl⟩
 have HA := Lib.hid (fun x (hx : In Q x) => storeOwn_any r.store _ _ x (H.out.store.below (hQb _ hx)))
 have HU := Lib.hid (fun x (hx : In Q x) => cloneRefs_any r.refs _ _ x (H.out.refs.below (hQb _ hx)))
 have HP := Lib.hid (fun x (hx : In Q x) => pushOwn_any r.pend _ _ _ _ x (H.out.objs.below (hQb _ hx)) (H.out.upds.below (hQb _ hx)))
 simp only [pshV] at HP
 clear HB0
 go_enter Tryz.func140, Tryz.ntmps140
 go_wp2_with fail
 refine wp_region_held (S := (fun x : World => x.cell? ⟨w.heap.size, 0, none⟩ = some (.slice sa r.store.length sc) ∧ x.cell? ⟨w.heap.size, 1, none⟩ = some (.slice ra r.refs.length rc) ∧ x.cell? ⟨w.heap.size, 2, none⟩ = some (.int .i64 r.gen) ∧ x.cell? ⟨w.heap.size, 3, none⟩ = some (.int .i64 r.phase) ∧ x.cell? ⟨w.heap.size, 4, none⟩ = some (.slice oa r.pend.objects.length oc) ∧ x.cell? ⟨w.heap.size, 5, none⟩ = some (.slice ua r.pend.updates.length uc) ∧ x.cell? ⟨w.heap.size, 6, none⟩ = some (.bool r.pend.force))) (by kernel_rfl) ?_
 change wpAnyH _ _ _ _ _ _ _ _ (World.drew _)
 have hC0 := hQ.drew _ hQ1
 generalize ((w.alloc _).alloc _).drew = x0 at hC0 ⊢
 clear hQ1
 have hS0 := HS _ hC0
 refine wpAnyH_take (i := 0) (v := .pointer (some ⟨w.heap.size, 0, none⟩)) rfl (by kernel_rfl) (by kernel_rfl) (by kernel_rfl) (fun _ _ _ h => h) (Or.inl ⟨by rfl, fun w hSw => ?_⟩) hS0 ?_
 ·go_simp
 simp only [Act.put, List.setIfInBounds_toArray, List.set_cons_zero, List.set_cons_succ]
 refine wpAnyH_take (i := 1) (v := .slice sa r.store.length sc) rfl (by kernel_rfl) (by kernel_rfl) (by kernel_rfl) (fun _ _ _ h => h) (Or.inl ⟨by rfl, fun w hSw => ?_⟩) hS0 ?_
 ·have yy := hSw.1; go_simp
 simp only [Act.put, List.setIfInBounds_toArray, List.set_cons_zero, List.set_cons_succ]
 refine wpAnyH_take (i := 3) (v := .pointer (some ⟨w.heap.size, 1, none⟩)) rfl (by kernel_rfl) (by kernel_rfl) (by kernel_rfl) (fun _ _ _ h => h) (Or.inl ⟨by rfl, fun w hSw => ?_⟩) hS0 ?_
 ·go_simp
 simp only [Act.put, List.setIfInBounds_toArray, List.set_cons_zero, List.set_cons_succ]
 refine wpAnyH_take (i := 4) (v := .slice ra r.refs.length rc) rfl (by kernel_rfl) (by kernel_rfl) (by kernel_rfl) (fun _ _ _ h => h) (Or.inl ⟨by rfl, fun w hSw => ?_⟩) hS0 ?_
 ·have yy := hSw.2.1; go_simp
 simp only [Act.put, List.setIfInBounds_toArray, List.set_cons_zero, List.set_cons_succ]
 refine wpAnyH_take (i := 6) (v := .pointer (some ⟨w.heap.size, 2, none⟩)) rfl (by kernel_rfl) (by kernel_rfl) (by kernel_rfl) (fun _ _ _ h => h) (Or.inl ⟨by rfl, fun w hSw => ?_⟩) hS0 ?_
 ·go_simp
 simp only [Act.put, List.setIfInBounds_toArray, List.set_cons_zero, List.set_cons_succ]
 refine wpAnyH_take (i := 7) (v := .int .i64 r.gen) rfl (by kernel_rfl) (by kernel_rfl) (by kernel_rfl) (fun _ _ _ h => h) (Or.inl ⟨by rfl, fun w hSw => ?_⟩) hS0 ?_
 ·have yy := hSw.2.2.1; go_simp
 simp only [Act.put, List.setIfInBounds_toArray, List.set_cons_zero, List.set_cons_succ]
 refine wpAnyH_take (i := 8) (v := .pointer (some ⟨w.heap.size, 3, none⟩)) rfl (by kernel_rfl) (by kernel_rfl) (by kernel_rfl) (fun _ _ _ h => h) (Or.inl ⟨by rfl, fun w hSw => ?_⟩) hS0 ?_
 ·go_simp
 simp only [Act.put, List.setIfInBounds_toArray, List.set_cons_zero, List.set_cons_succ]
 refine wpAnyH_take (i := 9) (v := .int .i64 r.phase) rfl (by kernel_rfl) (by kernel_rfl) (by kernel_rfl) (fun _ _ _ h => h) (Or.inl ⟨by rfl, fun w hSw => ?_⟩) hS0 ?_
 ·have yy := hSw.2.2.2.1; go_simp
 simp only [Act.put, List.setIfInBounds_toArray, List.set_cons_zero, List.set_cons_succ]
 refine wpAnyH_take (i := 10) (v := .pointer (some ⟨w.heap.size, 4, none⟩)) rfl (by kernel_rfl) (by kernel_rfl) (by kernel_rfl) (fun _ _ _ h => h) (Or.inl ⟨by rfl, fun w hSw => ?_⟩) hS0 ?_
 ·go_simp
 simp only [Act.put, List.setIfInBounds_toArray, List.set_cons_zero, List.set_cons_succ]
 refine wpAnyH_take (i := 11) (v := .agg #[.slice oa r.pend.objects.length oc, .slice ua r.pend.updates.length uc, .bool r.pend.force]) rfl (by kernel_rfl) (by kernel_rfl) (by kernel_rfl) (fun _ _ _ h => h) (Or.inl ⟨by rfl, fun w hSw => ?_⟩) hS0 ?_
 ·obtain ⟨_, _, _, _, y4, y5, y6⟩ := hSw; go_simp
 simp only [Act.put, List.setIfInBounds_toArray, List.set_cons_zero, List.set_cons_succ]
 refine wpAnyH_all (rs := [2]) (by kernel_rfl) (by simp) (fun j hj => ?_)
 obtain rfl : j = 2 := by simpa using hj
 refine Or.inl ?_
 go_wp2_with fail
 refine (HA.out _ hC0).mono ?_
 rintro e x1 ⟨vA, rfl, hvA, hb2⟩
 have hC1 := hQn _ _ hC0 hb2
 have hs0 := HN.out _ hC0
 obtain ⟨a1, c1, rfl⟩ := hvA.gath.shape
 have HvA := Lib.hid ((hvA.store h56).weaken (S' := fun b => w.heap.size + 2 ≤ b) (fun b hb => by omega))
 clear hvA
 clear hb2
 have hS1 := HS _ hC1
 go_simp
 refine wpAnyH_all (rs := [5]) (by kernel_rfl) (by simp) (fun j hj => ?_)
 obtain rfl : j = 5 := by simpa using hj
 refine Or.inl ?_
 go_wp2_with fail
 refine (HU.out _ hC1).mono ?_
 rintro e x2 ⟨vU, rfl, hvU, hb5⟩
 have hC2 := hQn _ _ hC1 hb5
 have hs1 := HN.out _ hC1
 obtain ⟨a2, c2, rfl⟩ := hvU.shape
 have HvU := Lib.hid ((hvU.refs h24).weaken (S' := fun b => w.heap.size + 2 ≤ b) (fun b hb => by omega))
 clear hvU
 replace HvA := Lib.hid (HvA.out.below hb5)
 clear hb5
 have hS2 := HS _ hC2
 go_simp
 refine wpAnyH_all (rs := [12]) (by kernel_rfl) (by simp) (fun j hj => ?_)
 obtain rfl : j = 12 := by simpa using hj
 refine Or.inl ?_
 go_wp2_with fail
 refine (HP.out _ hC2).mono ?_
 rintro e x3 ⟨vO, vM, rfl, hvO, hvM, hb12⟩
 have hC3 := hQn _ _ hC2 hb12
 have hs2 := HN.out _ hC2
 obtain ⟨a3, c3, rfl⟩ := hvO.vshape
 obtain ⟨⟨a4, c4⟩, rfl⟩ := hvM.shape
 have HvO := Lib.hid (hvO.weaken (S' := fun b => w.heap.size + 2 ≤ b) (fun b hb => by omega))
 have HvM := Lib.hid (hvM.weaken (S' := fun b => w.heap.size + 2 ≤ b) (fun b hb => by omega))
 have HvP := Lib.hid (show PshAt (fun b => w.heap.size + 2 ≤ b) _ r.pend _ _ from ⟨HvO.out, HvM.out⟩)
 clear hvO hvM HvO HvM
 simp only [pshV]
 replace HvA := Lib.hid (HvA.out.below hb12)
 replace HvU := Lib.hid (HvU.out.below hb12)
 clear hb12
 have hS3 := HS _ hC3
 go_simp
 refine wpAnyH_all (rs := [13]) (by kernel_rfl) (by simp) (fun j hj => ?_)
 obtain rfl : j = 13 := by simpa using hj
 refine Or.inl ?_
 go_simp
 refine wpAnyH_all (rs := [14]) (by kernel_rfl) (by simp) (fun j hj => ?_)
 obtain rfl : j = 14 := by simpa using hj
 refine Or.inl ?_
 have hblk := HZ.out _ hC3
 have g0 := block_cell (j := 0) hblk rfl
 have g1 := block_cell (j := 1) hblk rfl
 have g2 := block_cell (j := 2) hblk rfl
 have g3 := block_cell (j := 3) hblk rfl
 have g4 := block_cell (j := 4) hblk rfl
 have g5 := block_cell (j := 5) hblk rfl
 have g6 := block_cell (j := 6) hblk rfl
 have f0 := block_free (j := 0) hblk
 have f1 := block_free (j := 1) hblk
 have f2 := block_free (j := 2) hblk
 have f3 := block_free (j := 3) hblk
 have f4 := block_free (j := 4) hblk
 have f5 := block_free (j := 5) hblk
 have f6 := block_free (j := 6) hblk
 have hb7 := set7_is (v0 := .slice a1 r.store.length c1) (v1 := .slice a2 r.refs.length c2) (v2 := .int .i64 r.gen) (v3 := .int .i64 r.phase) (v4 := .slice a3 r.pend.objects.length c3) (v5 := .slice a4 r.pend.updates.length c4) (v6 := .bool r.pend.force) hblk
 have hu7 := set7_upd (w.heap.size + 1) (.slice a1 r.store.length c1) (.slice a2 r.refs.length c2) (.int .i64 r.gen) (.int .i64 r.phase) (.slice a3 r.pend.objects.length c3) (.slice a4 r.pend.updates.length c4) (.bool r.pend.force) x3
 have Hb7 := Lib.hid hb7
 have Hu7 := Lib.hid hu7
 clear hb7 hu7
 go_wp2_with fail
 refine ⟨by kernel_rfl, ?_⟩
 change Exit.then _ _ _ _ (set7 (w.heap.size + 1) (.slice a1 r.store.length c1) (.slice a2 r.refs.length c2) (.int .i64 r.gen) (.int .i64 r.phase) (.slice a3 r.pend.objects.length c3) (.slice a4 r.pend.updates.length c4) (.bool r.pend.force) x3)
 have hb7 := Hb7.out
 have hu7 := Hu7.out
 clear Hb7 Hu7
 generalize set7 (w.heap.size + 1) (.slice a1 r.store.length c1) (.slice a2 r.refs.length c2) (.int .i64 r.gen) (.int .i64 r.phase) (.slice a3 r.pend.objects.length c3) (.slice a4 r.pend.updates.length c4) (.bool r.pend.force) x3 = w7 at *
 have k0 := block_cell (j := 0) hb7 rfl
 have k1 := block_cell (j := 1) hb7 rfl
 have k2 := block_cell (j := 2) hb7 rfl
 have k3 := block_cell (j := 3) hb7 rfl
 have k4 := block_cell (j := 4) hb7 rfl
 have k5 := block_cell (j := 5) hb7 rfl
 have k6 := block_cell (j := 6) hb7 rfl
 clear g0 g1 g2 g3 g4 g5 g6 f0 f1 f2 f3 f4 f5 f6 hblk hb7
 have hsz := (hQb _ hC3).size
 have hB7 : Below w.heap.size w w7 := (hQb _ hC3).trans (hu7.below (B := w.heap.size) hsz (fun b hb => by omega))
 go_wp2_with fail
 refine bodyPost_ret (v := .agg #[.slice a1 r.store.length c1, .slice a2 r.refs.length c2, .int .i64 r.gen, .int .i64 r.phase, .slice a3 r.pend.objects.length c3, .slice a4 r.pend.updates.length c4, .bool r.pend.force]) (by simp [results, Tryz.results140, go_sem]; simp [k0, k1, k2, k3, k4, k5, k6] <;> rfl) rfl ?_
 exact ⟨_, _, _, _, rfl, ⟨(HvA.out.upd' hu7 (fun b hb e => by omega)).weaken fun b hb => by omega, (HvU.out.upd hu7 (fun b hb e => by omega)).weaken fun b hb => by omega, (HvP.out.1.upd' hu7 (fun b hb e => by omega)).weaken fun b hb => by omega, (HvP.out.2.upd hu7 (fun b hb e => by omega)).weaken fun b hb => by omega, H.out.gen, H.out.phase⟩, hB7⟩
end Go.Proofs.YtjdgpgfiomnjkaaGreatDoor
namespace Go.Proofs.YtjdgpgfiomnjkaaGreatDoor
open Go.RowKit
set_option linter.unusedVariables false
set_option linter.unusedSimpArgs false
set_option linter.unusedSectionVars false
variable [Ghost]
def rep (l : List Rep) (i : Nat) : Rep := at_ rep0 l i
structure RV where
 s : Value
 r : Value
 o : Value
 u : Value
def repC (r : Rep) (x : RV) : List Value := [x.s, x.r, .int .i64 r.gen, .int .i64 r.phase, x.o, x.u, .bool r.pend.force]
def RepAt (S : Nat → Prop) (w : World) (r : Rep) (x : RV) : Prop := RepIs S w r x.s x.r x.o x.u
def RepsV (S : Nat → Prop) (w : World) (v : Value) (l : List Rep) : Prop :=
 ∃ vs : Nat → RV, Sl S w v 7 120 l.length (fun i => repC (rep l i) (vs i)) ∧ ∀ i, i < l.length → RepAt S w (rep l i) (vs i)
theorem RepsV.below {S : Nat → Prop} {w w' : World} {v : Value} {l : List Rep} (h : RepsV S w v l) (hb : Below w.heap.size w w') : RepsV S w' v l :=
 let ⟨vs, h1, h2⟩ := h; ⟨vs, h1.below hb, fun i hi => (h2 i hi).below hb⟩
theorem RepsV.weaken {S S' : Nat → Prop} {w : World} {v : Value} {l : List Rep} (h : RepsV S w v l) (hs : ∀ b, S b → S' b) : RepsV S' w v l :=
 let ⟨vs, h1, h2⟩ := h; ⟨vs, h1.weaken hs, fun i hi => (h2 i hi).weaken hs⟩
theorem RepsV.nil (S : Nat → Prop) (w : World) (cap : Nat) (a : Option Addr) (h : cap ≤ 9223372036854775807) : RepsV S w (.slice a 0 cap) [] :=
 ⟨fun _ => ⟨.nilFunc, .nilFunc, .nilFunc, .nilFunc⟩, ⟨a, cap, rfl, Nat.zero_le _, h, by simp, fun h => absurd h (by simp)⟩, fun i hi => by simp at hi⟩
theorem RepsV.vshape {S : Nat → Prop} {w : World} {v : Value} {l : List Rep} (h : RepsV S w v l) : ∃ a c, v = .slice a l.length c :=
 let ⟨_, ⟨a, cap, hv, _⟩, _⟩ := h; ⟨a, cap, hv⟩
theorem RepsV.take {S : Nat → Prop} {w : World} {a : Option Addr} {n cap : Nat} {l : List Rep} (h : RepsV S w (.slice a n cap) l) {i : Nat} (hi : i ≤ l.length) : RepsV S w (.slice a i cap) (l.take i) := by
 obtain ⟨vs, ⟨a', cap', hv, h1, h2, h3, h4⟩, h5⟩ := h
 cases hv
 have hl : (l.take i).length = i := by rw [List.length_take]; omega
 have he : ∀ j, j < i → rep (l.take i) j = rep l j := fun j hj => by unfold rep at_; simp only [List.getD_eq_getElem?_getD, List.getElem?_take, if_pos hj]
 refine ⟨vs, ⟨a, cap, by rw [hl], by omega, h2, by omega, fun hn => ?_⟩, fun j hj => ?_⟩
 ·obtain ⟨b, off, ha, hS, hc⟩ := h4 (by omega)
  exact ⟨b, off, ha, ⟨hS.1, hS.2.sub (Nat.le_refl _) (by rw [hl]; omega)⟩, fun j hj k u hu => hc j (by omega) k u (by show (repC (rep l j) (vs j))[k]? = some u; rw [← he j (by omega)]; exact hu)⟩
 ·rw [he j (by omega)]; exact h5 j (by omega)
structure RA where
 sa : Option Addr
 sc : Nat
 ra : Option Addr
 rc : Nat
 oa : Option Addr
 oc : Nat
 ua : Option Addr
 uc : Nat
def RA.rv (x : RA) (r : Rep) : RV := ⟨.slice x.sa r.store.length x.sc, .slice x.ra r.refs.length x.rc, .slice x.oa r.pend.objects.length x.oc, .slice x.ua r.pend.updates.length x.uc⟩
theorem RepAt.ra {S : Nat → Prop} {w : World} {r : Rep} {x : RV} (h : RepAt S w r x) : ∃ y : RA, x = y.rv r := by
 obtain ⟨sa, sc, e1⟩ := StoreV.vshape h.store
 obtain ⟨⟨ra, rc⟩, e2⟩ := RefsV.shape h.refs
 obtain ⟨oa, oc, e3⟩ := StoreV.vshape h.objs
 obtain ⟨⟨ua, uc⟩, e4⟩ := MvsV.shape h.upds
 exact ⟨⟨sa, sc, ra, rc, oa, oc, ua, uc⟩, by cases x; simp_all [RA.rv]⟩
theorem RepsV.open {S : Nat → Prop} {w : World} {v : Value} {l : List Rep} (h : RepsV S w v l) :
  ∃ a n cap, ∃ f : Nat → RA, Hid (n = l.length) ∧ v = .slice a n cap ∧ n ≤ cap ∧ cap ≤ 9223372036854775807 ∧ n * 120 ≤ 140737488351232 ∧
   (0 < n → ∃ b off, a = some ⟨b, off, none⟩ ∧ S b ∧
    (∀ i x, i < n → Below w.heap.size w x → x.cell? ⟨b, off + i * 7, none⟩ = some (.slice (f i).sa (rep l i).store.length (f i).sc)) ∧
    (∀ i x, i < n → Below w.heap.size w x → x.cell? ⟨b, off + i * 7 + 1, none⟩ = some (.slice (f i).ra (rep l i).refs.length (f i).rc)) ∧
    (∀ i x, i < n → Below w.heap.size w x → x.cell? ⟨b, off + i * 7 + 2, none⟩ = some (.int .i64 (rep l i).gen)) ∧
    (∀ i x, i < n → Below w.heap.size w x → x.cell? ⟨b, off + i * 7 + 3, none⟩ = some (.int .i64 (rep l i).phase)) ∧
    (∀ i x, i < n → Below w.heap.size w x → x.cell? ⟨b, off + i * 7 + 4, none⟩ = some (.slice (f i).oa (rep l i).pend.objects.length (f i).oc)) ∧
    (∀ i x, i < n → Below w.heap.size w x → x.cell? ⟨b, off + i * 7 + 5, none⟩ = some (.slice (f i).ua (rep l i).pend.updates.length (f i).uc)) ∧
    (∀ i x, i < n → Below w.heap.size w x → x.cell? ⟨b, off + i * 7 + 6, none⟩ = some (.bool (rep l i).pend.force))) ∧
   (∀ i, i < n → RepIs S w (rep l i) (.slice (f i).sa (rep l i).store.length (f i).sc) (.slice (f i).ra (rep l i).refs.length (f i).rc) (.slice (f i).oa (rep l i).pend.objects.length (f i).oc) (.slice (f i).ua (rep l i).pend.updates.length (f i).uc)) := by
 obtain ⟨vs, h1, h2⟩ := h
 have hp : ∃ f : Nat → RA, ∀ i, i < l.length → vs i = (f i).rv (rep l i) := by
  refine ⟨fun i => if hi : i < l.length then Classical.choose (h2 i hi).ra else ⟨none, 0, none, 0, none, 0, none, 0⟩, fun i hi => ?_⟩
  simp only [hi, dif_pos]
  exact Classical.choose_spec (h2 i hi).ra
 obtain ⟨f, hf⟩ := hp
 obtain ⟨a, cap, hv, h3, h4, h5, h6⟩ := h1
 refine ⟨a, l.length, cap, f, rfl, hv, h3, h4, h5, fun hn => ?_, fun i hi => ?_⟩
 ·obtain ⟨b, off, ha, hS, hc⟩ := h6 hn
  have hc' : ∀ i x, i < l.length → Below w.heap.size w x → ∀ j u, (repC (rep l i) ((f i).rv (rep l i)))[j]? = some u → x.cell? ⟨b, off + i * 7 + j, none⟩ = some u :=
   fun i x hi hb j u hu => below_cell hb (hc i hi j u (by show (repC (rep l i) (vs i))[j]? = some u; rw [hf i hi]; exact hu))
  exact ⟨b, off, ha, hS.1, fun i x hi hb => hc' i x hi hb 0 _ rfl, fun i x hi hb => hc' i x hi hb 1 _ rfl, fun i x hi hb => hc' i x hi hb 2 _ rfl, fun i x hi hb => hc' i x hi hb 3 _ rfl, fun i x hi hb => hc' i x hi hb 4 _ rfl, fun i x hi hb => hc' i x hi hb 5 _ rfl, fun i x hi hb => hc' i x hi hb 6 _ rfl⟩
 ·have := h2 i hi
  rw [hf i hi] at this; exact this
def bestTo (l : List Rep) : Nat → Nat × Nat
 | 0 => (0, 0)
 | k + 1 => if k = 0 ∨ (rep l (bestTo l k).1).gen < (rep l k).gen then (k, 1) else if (rep l k).gen = (rep l (bestTo l k).1).gen then ((bestTo l k).1, (bestTo l k).2 + 1) else bestTo l k
def many (l : List Rep) : Nat := (bestTo l l.length).2
end Go.Proofs.YtjdgpgfiomnjkaaGreatDoor
namespace Go.Proofs.YtjdgpgfiomnjkaaGreatDoor
open Go.RowKit
set_option linter.unusedVariables false
set_option linter.unusedSimpArgs false
set_option linter.unusedSectionVars false
variable [Ghost]
theorem RepsV.upd {S T : Nat → Prop} {w w' : World} {v : Value} {l : List Rep} (h : RepsV S w v l) (hu : Upd T w w') (hT : ∀ b, S b → ¬ T b) : RepsV S w' v l := by
 obtain ⟨vs, ⟨a, cap, hv, h1, h2, h3, h4⟩, h5⟩ := h
 refine ⟨vs, ⟨a, cap, hv, h1, h2, h3, fun hn => ?_⟩, fun i hi => RepIs.upd (h5 i hi) hu hT⟩
 obtain ⟨b, off, ha, hS, hc⟩ := h4 hn
 exact ⟨b, off, ha, ⟨hS.1, hS.2.same fun hl => hu.block b hl (hT b hS.1)⟩, fun i hi j u hu2 => hu.cell (hc i hi j u hu2) (hT b hS.1)⟩
theorem blk_below {w w' : World} {D : Nat} {o : Go.Obj} (h : w.heap[D]? = some o) (hb : Below w.heap.size w w') : w'.heap[D]? = some o := (hb.block _ (lt_of_block h)).trans h
def BoxR (D : Nat) (w : World) (r : Rep) : Prop :=
 ∃ sa sc ra rc oa oc ua uc, w.heap[D]? = some (.cells #[.slice sa r.store.length sc, .slice ra r.refs.length rc, .int .i64 r.gen, .int .i64 r.phase, .slice oa r.pend.objects.length oc, .slice ua r.pend.updates.length uc, .bool r.pend.force] 28 (0, 0)) ∧
  RepIs (fun _ => True) w r (.slice sa r.store.length sc) (.slice ra r.refs.length rc) (.slice oa r.pend.objects.length oc) (.slice ua r.pend.updates.length uc)
theorem BoxR.below {D : Nat} {w w' : World} {r : Rep} (h : BoxR D w r) (hb : Below w.heap.size w w') : BoxR D w' r := by
 obtain ⟨sa, sc, ra, rc, oa, oc, ua, uc, h1, h2⟩ := h
 exact ⟨sa, sc, ra, rc, oa, oc, ua, uc, (hb.block _ (lt_of_block h1)).trans h1, h2.below hb⟩
def BoxC (D : Nat) (w : World) (l : List Rep) : Prop := ∃ a c, w.heap[D]? = some (.cells #[.slice a l.length c] 66 (0, 0)) ∧ RepsV (fun _ => True) w (.slice a l.length c) l
theorem BoxC.below {D : Nat} {w w' : World} {l : List Rep} (h : BoxC D w l) (hb : Below w.heap.size w w') : BoxC D w' l := by
 obtain ⟨a, c, h1, h2⟩ := h
 exact ⟨a, c, (hb.block _ (lt_of_block h1)).trans h1, h2.below hb⟩
theorem cls_new (w0 : World) : ∃ Q : World → Prop, Cls w0 Q ∧ In Q w0 ∧ ∀ x y (T : Nat → Prop), In Q x → Upd T x y → (∀ b, T b → w0.heap.size ≤ b) → In Q y :=
 ⟨_, cls_of w0 w0 w0.heap.size (Nat.le_refl _) (Nat.le_refl _) (Below.refl _ _), Below.refl _ _, fun x y T hx hu hT => Below.trans (hx : Below _ _ _) (hu.below (Below.size (hx : Below _ _ _)) hT)⟩
def BoxP (P : Nat → Prop) (D : Nat) (w : World) (r : Rep) : Prop :=
 ∃ sa sc ra rc oa oc ua uc, w.heap[D]? = some (.cells #[.slice sa r.store.length sc, .slice ra r.refs.length rc, .int .i64 r.gen, .int .i64 r.phase, .slice oa r.pend.objects.length oc, .slice ua r.pend.updates.length uc, .bool r.pend.force] 28 (0, 0)) ∧
  RepIs P w r (.slice sa r.store.length sc) (.slice ra r.refs.length rc) (.slice oa r.pend.objects.length oc) (.slice ua r.pend.updates.length uc)
theorem BoxP.below {P : Nat → Prop} {D : Nat} {w w' : World} {r : Rep} (h : BoxP P D w r) (hb : Below w.heap.size w w') : BoxP P D w' r := by
 obtain ⟨sa, sc, ra, rc, oa, oc, ua, uc, h1, h2⟩ := h
 exact ⟨sa, sc, ra, rc, oa, oc, ua, uc, blk_below h1 hb, h2.below hb⟩
theorem BoxP.upd {P T : Nat → Prop} {D : Nat} {w w' : World} {r : Rep} (h : BoxP P D w r) (hu : Upd T w w') (hD : ¬ T D) (hP : ∀ b, P b → ¬ T b) : BoxP P D w' r := by
 obtain ⟨sa, sc, ra, rc, oa, oc, ua, uc, h1, h2⟩ := h
 exact ⟨sa, sc, ra, rc, oa, oc, ua, uc, hu.blk h1 hD, RepIs.upd h2 hu hP⟩
theorem BoxP.any {P : Nat → Prop} {D : Nat} {w : World} {r : Rep} (h : BoxP P D w r) : BoxR D w r := by
 obtain ⟨sa, sc, ra, rc, oa, oc, ua, uc, h1, h2⟩ := h
 exact ⟨sa, sc, ra, rc, oa, oc, ua, uc, h1, h2.weaken fun _ _ => trivial⟩
theorem BoxP.zero (P : Nat → Prop) {D : Nat} {w : World} (h : w.heap[D]? = some (.cells #[.slice none 0 0, .slice none 0 0, .int .i64 0, .int .i64 0, .slice none 0 0, .slice none 0 0, .bool false] 28 (0, 0))) : BoxP P D w rep0 :=
 ⟨none, 0, none, 0, none, 0, none, 0, h, rep0_is _ _⟩
end Go.Proofs.YtjdgpgfiomnjkaaGreatDoor
namespace Go.Proofs.YtjdgpgfiomnjkaaGreatDoor
open Go.RowKit
set_option linter.unusedVariables false
set_option linter.unusedSimpArgs false
set_option linter.unusedSectionVars false
variable [Ghost]
theorem BoxP.weaken {P P' : Nat → Prop} {D : Nat} {w : World} {r : Rep} (h : BoxP P D w r) (hP : ∀ b, P b → P' b) : BoxP P' D w r := by
 obtain ⟨sa, sc, ra, rc, oa, oc, ua, uc, h1, h2⟩ := h
 exact ⟨sa, sc, ra, rc, oa, oc, ua, uc, h1, h2.weaken hP⟩
theorem BoxP.lt {P : Nat → Prop} {D : Nat} {w : World} {r : Rep} (h : BoxP P D w r) : BoxP (fun b => P b ∧ b < w.heap.size) D w r := by
 obtain ⟨sa, sc, ra, rc, oa, oc, ua, uc, h1, h2⟩ := h
 exact ⟨sa, sc, ra, rc, oa, oc, ua, uc, h1, RepIs.lt h2⟩
def Bag (P : Nat → Prop) (w : World) : List (Nat × Rep) → Prop
 | [] => True
 | x :: l => BoxP P x.1 w x.2 ∧ Bag P w l
theorem Bag.below {P : Nat → Prop} {w w' : World} : ∀ {l : List (Nat × Rep)}, Bag P w l → Below w.heap.size w w' → Bag P w' l
 | [], _, _ => trivial
 | _ :: _, ⟨h, hs⟩, hb => ⟨h.below hb, Bag.below hs hb⟩
theorem Bag.weaken {P P' : Nat → Prop} {w : World} : ∀ {l : List (Nat × Rep)}, Bag P w l → (∀ b, P b → P' b) → Bag P' w l
 | [], _, _ => trivial
 | _ :: _, ⟨h, hs⟩, hp => ⟨h.weaken hp, Bag.weaken hs hp⟩
theorem Bag.lt {P : Nat → Prop} {w : World} : ∀ {l : List (Nat × Rep)}, Bag P w l → Bag (fun b => P b ∧ b < w.heap.size) w l
 | [], _ => trivial
 | _ :: _, ⟨h, hs⟩ => ⟨h.lt, Bag.lt hs⟩
theorem Bag.upd {P T : Nat → Prop} {w w' : World} : ∀ {l : List (Nat × Rep)}, Bag P w l → Upd T w w' → (∀ x ∈ l, ¬ T x.1) → (∀ b, P b → ¬ T b) → Bag P w' l
 | [], _, _, _, _ => trivial
 | x :: _, ⟨h, hs⟩, hu, hT, hP => ⟨h.upd hu (hT x List.mem_cons_self) hP, Bag.upd hs hu (fun y hy => hT y (List.mem_cons_of_mem _ hy)) hP⟩
def BoxQ (P : Nat → Prop) (D : Nat) (w : World) (p : Psh) : Prop :=
 ∃ oa oc ua uc, w.heap[D]? = some (.cells #[.slice oa p.objects.length oc, .slice ua p.updates.length uc, .bool p.force] 26 (0, 0)) ∧ StoreV P w (.slice oa p.objects.length oc) p.objects ∧ MvsV P w (.slice ua p.updates.length uc) p.updates
theorem BoxQ.below {P : Nat → Prop} {D : Nat} {w w' : World} {p : Psh} (h : BoxQ P D w p) (hb : Below w.heap.size w w') : BoxQ P D w' p := by
 obtain ⟨oa, oc, ua, uc, h1, h2, h3⟩ := h
 exact ⟨oa, oc, ua, uc, blk_below h1 hb, h2.below hb, h3.below hb⟩
theorem BoxQ.upd {P T : Nat → Prop} {D : Nat} {w w' : World} {p : Psh} (h : BoxQ P D w p) (hu : Upd T w w') (hD : ¬ T D) (hP : ∀ b, P b → ¬ T b) : BoxQ P D w' p := by
 obtain ⟨oa, oc, ua, uc, h1, h2, h3⟩ := h
 exact ⟨oa, oc, ua, uc, hu.blk h1 hD, h2.upd' hu hP, h3.upd hu hP⟩
theorem BoxQ.weaken {P P' : Nat → Prop} {D : Nat} {w : World} {p : Psh} (h : BoxQ P D w p) (hP : ∀ b, P b → P' b) : BoxQ P' D w p := by
 obtain ⟨oa, oc, ua, uc, h1, h2, h3⟩ := h
 exact ⟨oa, oc, ua, uc, h1, h2.weaken hP, h3.weaken hP⟩
theorem BoxQ.lt {P : Nat → Prop} {D : Nat} {w : World} {p : Psh} (h : BoxQ P D w p) : BoxQ (fun b => P b ∧ b < w.heap.size) D w p := by
 obtain ⟨oa, oc, ua, uc, h1, h2, h3⟩ := h
 exact ⟨oa, oc, ua, uc, h1, h2.lt, h3.lt⟩
end Go.Proofs.YtjdgpgfiomnjkaaGreatDoor
namespace Go.Proofs.YtjdgpgfiomnjkaaGreatDoor
open Go.RowKit
set_option linter.unusedVariables false
set_option linter.unusedSimpArgs false
set_option linter.unusedSectionVars false
variable [Ghost]
def Akin (v u : Value) : Prop := u = v ∨ (∃ i j, v = .int .i64 i ∧ u = .int .i64 j) ∨ (∃ s t, v = .string s ∧ u = .string t) ∨ ∃ a b, v = .bool a ∧ u = .bool b
theorem Akin.refl (v : Value) : Akin v v := .inl rfl
theorem Akin.trans {a b c : Value} (h : Akin a b) (k : Akin b c) : Akin a c := by
 rcases h with rfl | ⟨i, j, rfl, rfl⟩ | ⟨s, t, rfl, rfl⟩ | ⟨x, y, rfl, rfl⟩
 ·exact k
 ·rcases k with rfl | ⟨i', j', e, rfl⟩ | ⟨_, _, e, _⟩ | ⟨_, _, e, _⟩
  ·exact .inr (.inl ⟨_, _, rfl, rfl⟩)
  ·exact .inr (.inl ⟨_, _, rfl, rfl⟩)
  ·cases e
  ·cases e
 ·rcases k with rfl | ⟨_, _, e, _⟩ | ⟨_, _, e, rfl⟩ | ⟨_, _, e, _⟩
  ·exact .inr (.inr (.inl ⟨_, _, rfl, rfl⟩))
  ·cases e
  ·exact .inr (.inr (.inl ⟨_, _, rfl, rfl⟩))
  ·cases e
 ·rcases k with rfl | ⟨_, _, e, _⟩ | ⟨_, _, e, _⟩ | ⟨_, _, e, rfl⟩
  ·exact .inr (.inr (.inr ⟨_, _, rfl, rfl⟩))
  ·cases e
  ·cases e
  ·exact .inr (.inr (.inr ⟨_, _, rfl, rfl⟩))
theorem Akin.slice {a : Option Addr} {n c : Nat} {u : Value} (h : Akin (.slice a n c) u) : u = .slice a n c := by
 rcases h with rfl | ⟨_, _, e, _⟩ | ⟨_, _, e, _⟩ | ⟨_, _, e, _⟩
 ·rfl
 all_goals cases e
theorem Akin.int {i : Int} {u : Value} (h : Akin (.int .i64 i) u) : ∃ j, u = .int .i64 j := by
 rcases h with rfl | ⟨_, j, _, rfl⟩ | ⟨_, _, e, _⟩ | ⟨_, _, e, _⟩
 ·exact ⟨_, rfl⟩
 ·exact ⟨_, rfl⟩
 all_goals cases e
theorem Akin.str {s : ByteArray} {u : Value} (h : Akin (.string s) u) : ∃ t, u = .string t := by
 rcases h with rfl | ⟨_, _, e, _⟩ | ⟨_, t, _, rfl⟩ | ⟨_, _, e, _⟩
 ·exact ⟨_, rfl⟩
 ·cases e
 ·exact ⟨_, rfl⟩
 ·cases e
structure Spl (N : Nat) (w w' : World) : Prop where
 below : Below N w w'
 frz : ∀ b o, b < w.heap.size → w'.frozen? ⟨b, o, none⟩ = w.frozen? ⟨b, o, none⟩
 cell : ∀ b o v, w.cell? ⟨b, o, none⟩ = some v → ∃ u, w'.cell? ⟨b, o, none⟩ = some u ∧ Akin v u
theorem Spl.of_below {N : Nat} {w w' : World} (h : Below w.heap.size w w') (hN : N ≤ w.heap.size) : Spl N w w' :=
 ⟨h.mono hN, fun b o hb => by unfold World.frozen?; rw [show w'.heap[(⟨b, o, none⟩ : Addr).block]? = w.heap[(⟨b, o, none⟩ : Addr).block]? from h.block b hb], fun b o v hv => ⟨v, below_cell h hv, .refl v⟩⟩
theorem Spl.refl {N : Nat} {w : World} (hN : N ≤ w.heap.size) : Spl N w w := Spl.of_below (Below.refl _ _) hN
theorem Spl.trans {N : Nat} {a b c : World} (h : Spl N a b) (k : Spl N b c) : Spl N a c :=
 ⟨h.below.trans k.below, fun x o hx => (k.frz x o (Nat.lt_of_lt_of_le hx h.below.size)).trans (h.frz x o hx), fun x o v hv => by
  obtain ⟨u, hu, h1⟩ := h.cell x o v hv
  obtain ⟨z, hz, h2⟩ := k.cell x o u hu
  exact ⟨z, hz, h1.trans h2⟩⟩
theorem cell_blk {w : World} {b o : Nat} {v : Value} (h : w.cell? ⟨b, o, none⟩ = some v) : ∃ cs t fz, w.heap[b]? = some (.cells cs t fz) ∧ cs[o]? = some v := by
 unfold World.cell? at h
 split at h
 ·rename_i c t f e
  exact ⟨c, t, f, e, by simpa using h⟩
 ·cases h
theorem set_blk {w : World} {b o : Nat} {u : Value} {cs : Array Value} {t : TypeId} {fz : Nat × Nat} (h : w.heap[b]? = some (.cells cs t fz)) : (w.setCell ⟨b, o, none⟩ u).heap[b]? = some (.cells (cs.setIfInBounds o u) t fz) := by
 simp [World.setCell, Array.getElem?_modify, h]
theorem blk_cell {w : World} {b o : Nat} {cs : Array Value} {t : TypeId} {fz : Nat × Nat} (h : w.heap[b]? = some (.cells cs t fz)) : w.cell? ⟨b, o, none⟩ = cs[o]? := by
 simp [World.cell?, h]
theorem Spl.set {N b o : Nat} {w : World} {v u : Value} (hN : N ≤ b) (hv : w.cell? ⟨b, o, none⟩ = some v) (h : Akin v u) : Spl N w (w.setCell ⟨b, o, none⟩ u) := by
 obtain ⟨cs, t, fz, h1, h2⟩ := cell_blk hv
 have h3 := set_blk (o := o) (u := u) h1
 have ho : o < cs.size := (Array.getElem?_eq_some_iff.1 h2).1
 refine ⟨(Below.refl N w).setCell hN u, fun x p hx => ?_, fun x p z hz => ?_⟩
 ·by_cases e : x = b
  ·subst e
   simp only [World.frozen?, h1, h3]
  ·have h4 : (w.setCell ⟨b, o, none⟩ u).heap[x]? = w.heap[x]? := Below.heap_setCell _ _ _ _ e
   simp only [World.frozen?, h4]
 ·by_cases e : x = b
  ·subst e
   rw [blk_cell h3]
   rw [blk_cell h1] at hz
   rw [Array.getElem?_setIfInBounds]
   by_cases e2 : o = p
   ·subst e2
    rw [h2] at hz; cases hz
    exact ⟨u, by simp [ho], h⟩
   ·rw [if_neg e2]; exact ⟨z, hz, .refl z⟩
  ·have h4 : (w.setCell ⟨b, o, none⟩ u).heap[x]? = w.heap[x]? := Below.heap_setCell _ _ _ _ e
   refine ⟨z, ?_, .refl z⟩
   rw [World.cell?_of_block (a := ⟨x, p, none⟩) h4]; exact hz
def Texts (N : Nat) (w : World) (a : Option Addr) (n sz j : Nat) : Prop := 0 < n → ∃ b off, a = some ⟨b, off, none⟩ ∧ N ≤ b ∧ ∀ i, i < n → w.frozen? ⟨b, off + i * sz + j, none⟩ = false ∧ ∃ s, w.cell? ⟨b, off + i * sz + j, none⟩ = some (.string s)
def Nums (N : Nat) (w : World) (a : Option Addr) (n : Nat) : Prop := 0 < n → ∃ b off, a = some ⟨b, off, none⟩ ∧ N ≤ b ∧ ∀ i, i < n → w.frozen? ⟨b, off + i, none⟩ = false ∧ ∃ z, w.cell? ⟨b, off + i, none⟩ = some (.int .i64 z)
def Rots (N : Nat) (w : World) (a : Option Addr) (n : Nat) : Prop :=
 Texts N w a n 4 3 ∧ (0 < n → ∃ b off, a = some ⟨b, off, none⟩ ∧ ∀ i, i < n → ∃ la ln lc, w.cell? ⟨b, off + i * 4 + 2, none⟩ = some (.slice la ln lc) ∧ ln ≤ 1000000000000000000 ∧ Nums N w la ln)
theorem Texts.spl {N : Nat} {w w' : World} {a : Option Addr} {n sz j : Nat} (h : Texts N w a n sz j) (hs : Spl N w w') : Texts N w' a n sz j := fun hn => by
 obtain ⟨b, off, e, hb, hc⟩ := h hn
 refine ⟨b, off, e, hb, fun i hi => ?_⟩
 obtain ⟨h1, s, h2⟩ := hc i hi
 obtain ⟨u, hu, hk⟩ := hs.cell _ _ _ h2
 obtain ⟨t, rfl⟩ := hk.str
 exact ⟨(hs.frz _ _ (World.block_lt_of_cell? w _ h2)).trans h1, t, hu⟩
theorem Nums.spl {N : Nat} {w w' : World} {a : Option Addr} {n : Nat} (h : Nums N w a n) (hs : Spl N w w') : Nums N w' a n := fun hn => by
 obtain ⟨b, off, e, hb, hc⟩ := h hn
 refine ⟨b, off, e, hb, fun i hi => ?_⟩
 obtain ⟨h1, s, h2⟩ := hc i hi
 obtain ⟨u, hu, hk⟩ := hs.cell _ _ _ h2
 obtain ⟨t, rfl⟩ := hk.int
 exact ⟨(hs.frz _ _ (World.block_lt_of_cell? w _ h2)).trans h1, t, hu⟩
theorem Rots.spl {N : Nat} {w w' : World} {a : Option Addr} {n : Nat} (h : Rots N w a n) (hs : Spl N w w') : Rots N w' a n := by
 refine ⟨h.1.spl hs, fun hn => ?_⟩
 obtain ⟨b, off, e, hc⟩ := h.2 hn
 refine ⟨b, off, e, fun i hi => ?_⟩
 obtain ⟨la, ln, lc, h1, h2, h3⟩ := hc i hi
 obtain ⟨u, hu, hk⟩ := hs.cell _ _ _ h1
 obtain rfl := hk.slice
 exact ⟨la, ln, lc, hu, h2, h3.spl hs⟩
theorem Fre.cell {w : World} {b off m N : Nat} (h : Fre w b off m) (hg : ∀ b, Ghost.frz b → b < N) (hN : N ≤ b) {k : Nat} (hk : k < m) : w.frozen? ⟨b, off + k, none⟩ = false := by
 rcases h with h | h
 ·have := hg b h; omega
 ·exact h.2 k hk
theorem nums_of {S : Nat → Prop} {N : Nat} {w : World} {a : Option Addr} {n c : Nat} {xs : List Int} (h : IntsV S w (.slice a n c) xs) (hS : ∀ b, S b → N ≤ b) (hg : ∀ b, Ghost.frz b → b < N) : Nums N w a n := by
 obtain ⟨⟨a', c', hv, _, _, _, h4⟩, _⟩ := h
 cases hv
 intro hn
 obtain ⟨b, off, ha, hF, hc⟩ := h4 hn
 exact ⟨b, off, ha, hS _ hF.1, fun i hi => ⟨hF.2.cell hg (hS _ hF.1) (by omega), _, by simpa using hc i hi 0 _ rfl⟩⟩
theorem rots_of {S : Nat → Prop} {N : Nat} {w : World} {a : Option Addr} {n c : Nat} {l : List Obj} (h : StoreV S w (.slice a n c) l) (hS : ∀ b, S b → N ≤ b) (hg : ∀ b, Ghost.frz b → b < N) : Rots N w a n := by
 obtain ⟨lvs, ⟨a', c', hv, _, _, h3, h4⟩, h5⟩ := h
 cases hv
 refine ⟨fun hn => ?_, fun hn => ?_⟩
 ·obtain ⟨b, off, ha, hF, hc⟩ := h4 hn
  exact ⟨b, off, ha, hS _ hF.1, fun i hi => ⟨by rw [Nat.add_assoc]; exact hF.2.cell hg (hS _ hF.1) (by omega), _, hc i hi 3 _ rfl⟩⟩
 ·obtain ⟨b, off, ha, hF, hc⟩ := h4 hn
  refine ⟨b, off, ha, fun i hi => ?_⟩
  obtain ⟨⟨la, lc⟩, e⟩ := (h5 i hi).1.shape
  have h0 := hc i hi 2 _ rfl
  have h1 := (h5 i hi).1
  rw [e] at h0 h1
  obtain ⟨⟨_, _, hv2, _, _, g3, _⟩, _⟩ := h1
  exact ⟨la, _, lc, h0, by omega, nums_of (h5 i hi |>.1 |> fun h => by rw [e] at h; exact h) hS hg⟩
theorem refs_texts {S : Nat → Prop} {N : Nat} {w : World} {a : Option Addr} {n c : Nat} {l : List Rf} (h : RefsV S w (.slice a n c) l) (hS : ∀ b, S b → N ≤ b) (hg : ∀ b, Ghost.frz b → b < N) : Texts N w a n 2 0 := by
 obtain ⟨⟨a', c', hv, _, _, _, h4⟩, _⟩ := h
 cases hv
 intro hn
 obtain ⟨b, off, ha, hF, hc⟩ := h4 hn
 exact ⟨b, off, ha, hS _ hF.1, fun i hi => ⟨by rw [Nat.add_assoc]; exact hF.2.cell hg (hS _ hF.1) (by omega), _, hc i hi 0 _ rfl⟩⟩
theorem mvs_texts {S : Nat → Prop} {N : Nat} {w : World} {a : Option Addr} {n c : Nat} {l : List Mv} (h : MvsV S w (.slice a n c) l) (hS : ∀ b, S b → N ≤ b) (hg : ∀ b, Ghost.frz b → b < N) : Texts N w a n 3 0 := by
 obtain ⟨⟨a', c', hv, _, _, _, h4⟩, _⟩ := h
 cases hv
 intro hn
 obtain ⟨b, off, ha, hF, hc⟩ := h4 hn
 exact ⟨b, off, ha, hS _ hF.1, fun i hi => ⟨by rw [Nat.add_assoc]; exact hF.2.cell hg (hS _ hF.1) (by omega), _, hc i hi 0 _ rfl⟩⟩
set_option maxRecDepth 100000 in
set_option maxHeartbeats 4000000 in
theorem spoilStore_any (N : Nat) (w : World) (a : Option Addr) (n c : Nat) (hn : n ≤ 1000000000000000000) (h : Rots N w a n) (hN : N ≤ w.heap.size) :
  Calls Tryz.prog 35 #[.slice a n c] w fun e w' => e = .returned (.tuple #[]) ∧ Spl N w w' := by
 have H := Lib.hid h
 clear h
 go_enter Tryz.func35, Tryz.ntmps35
 go_wp2_with fail
 go_loopw [2] (fun i wr => ∃ k : Nat, k ≤ n ∧ i = .int .i64 k ∧ Hid (Spl N w wr)) (fun i _ => n - (intOf i).toNat)
 case atStart => exact ⟨0, Nat.zero_le _, rfl, Lib.hid (Spl.refl hN)⟩
 case round =>
  obtain ⟨k, hk, rfl, HS⟩ := hrel
  by_cases hlt : k < n
  case neg =>
   obtain rfl : k = n := by omega
   go_wp2_with fail
   go_end0
   exact ⟨rfl, HS.out⟩
  case pos =>
   obtain ⟨b, off, rfl, hb, _⟩ := H.out.1 (by omega)
   obtain ⟨b', off', e', hL⟩ := H.out.2 (by omega)
   cases e'
   obtain ⟨la, ln, lc, hl0, hln, hnum⟩ := hL k hlt
   have HL := Lib.hid hl0
   have HNu := Lib.hid hnum
   have HR := Lib.hid H.out
   have hi1 : (0 : Int) ≤ (k : Int) := by omega
   have hi2 : (k : Int) < (n : Int) := by omega
   clear hL hl0 hnum
   have HC := Lib.hid (fun x (hx : Spl N w x) => show x.cell? ⟨b, off + k * 4 + 2, none⟩ = some (.slice la ln lc) from by
    obtain ⟨u, hu, hk2⟩ := hx.cell _ _ _ HL.out
    rw [hk2.slice] at hu; exact hu)
   go_wp2_with fail
   go_loopw [3] (fun i wx => ∃ j : Nat, j ≤ ln ∧ i = .int .i64 j ∧ Hid (Spl N w wx)) (fun i _ => ln - (intOf i).toNat)
   case atStart => exact ⟨0, Nat.zero_le _, rfl, HS⟩
   case round =>
    clear HS
    obtain ⟨j, hj, rfl, HS⟩ := hrel
    have c2 := HC.out _ HS.out
    by_cases hlj : j < ln
    case pos =>
     obtain ⟨lb, lof, rfl, hlb, hz⟩ := (HNu.out.spl HS.out) (by omega)
     obtain ⟨f0, z, z0⟩ := hz j hlj
     have hj1 : (0 : Int) ≤ (j : Int) := by omega
     have hj2 : (j : Int) < (ln : Int) := by omega
     have HS2 := Lib.hid (HS.out.trans (Spl.set hlb z0 (u := .int .i64 (-7)) (.inr (.inl ⟨_, _, rfl, rfl⟩))))
     clear hz
     go_wp2_with fail
     go_roundw
     case rel => exact ⟨j + 1, by omega, by go_num, HS2⟩
     case measure => simp [intOf]; omega
    case neg =>
     obtain rfl : j = ln := by omega
     obtain ⟨b2, off2, e2, hb2, ht⟩ := (HR.out.1.spl HS.out) (by omega)
     cases e2
     obtain ⟨f0, s, s0⟩ := ht k hlt
     have HS2 := Lib.hid (HS.out.trans (Spl.set hb2 s0 (u := .string ⟨#[63]⟩) (.inr (.inr (.inl ⟨_, _, rfl, rfl⟩)))))
     clear ht
     go_wp2_with fail
     go_roundw
     case rel => exact ⟨k + 1, by omega, by go_num, HS2⟩
     case measure => simp [intOf]; omega
end Go.Proofs.YtjdgpgfiomnjkaaGreatDoor
namespace Go.Proofs.YtjdgpgfiomnjkaaGreatDoor
open Go.RowKit
set_option linter.unusedVariables false
set_option linter.unusedSimpArgs false
set_option linter.unusedSectionVars false
variable [Ghost]
theorem Spl.slice {N b o : Nat} {w x : World} (h : Spl N w x) {a : Option Addr} {n c : Nat} (hc : w.cell? ⟨b, o, none⟩ = some (.slice a n c)) : x.cell? ⟨b, o, none⟩ = some (.slice a n c) := by
 obtain ⟨u, hu, hk⟩ := h.cell _ _ _ hc
 rw [hk.slice] at hu; exact hu
set_option maxRecDepth 100000 in
set_option maxHeartbeats 4000000 in
theorem spoilReplica_any (N : Nat) (w : World) (sa ra oa ua : Option Addr) (sn sc rn rc no oc un uc : Nat) (g ph : Int) (f : Bool) (hsn : sn ≤ 1000000000000000000) (hrn : rn ≤ 1000000000000000000) (hon : no ≤ 1000000000000000000) (hun : un ≤ 1000000000000000000)
  (h1 : Rots N w sa sn) (h2 : Texts N w ra rn 2 0) (h3 : Rots N w oa no) (h4 : Texts N w ua un 3 0) (hN : N ≤ w.heap.size) :
  Calls Tryz.prog 36 #[.agg #[.slice sa sn sc, .slice ra rn rc, .int .i64 g, .int .i64 ph, .slice oa no oc, .slice ua un uc, .bool f]] w fun e w' => e = .returned (.tuple #[]) ∧ Spl N w w' := by
 have hs0 : Spl N w (w.alloc (.cells #[.slice sa sn sc, .slice ra rn rc, .int .i64 g, .int .i64 ph, .slice oa no oc, .slice ua un uc, .bool f] 28)) := Spl.of_below ((Below.refl _ _).alloc (Nat.le_refl _) _) hN
 have HX := Lib.hid (heap_alloc_new w (.cells #[.slice sa sn sc, .slice ra rn rc, .int .i64 g, .int .i64 ph, .slice oa no oc, .slice ua un uc, .bool f] 28))
 have H1 := Lib.hid (h1.spl hs0)
 have H2 := Lib.hid (h2.spl hs0)
 have H3 := Lib.hid (h3.spl hs0)
 have H4 := Lib.hid (h4.spl hs0)
 have HS0 := Lib.hid hs0
 have HN0 := Lib.hid (Nat.le_trans hN hs0.below.size)
 clear h1 h2 h3 h4 hs0
 go_enter Tryz.func36, Tryz.ntmps36
 go_wp2_with fail
 generalize w.alloc (.cells #[.slice sa sn sc, .slice ra rn rc, .int .i64 g, .int .i64 ph, .slice oa no oc, .slice ua un uc, .bool f] 28) = w1 at *
 have c1 := fun x (hx : Spl N w1 x) => hx.slice (block_cell (j := 1) HX.out rfl)
 have c4 := fun x (hx : Spl N w1 x) => hx.slice (block_cell (j := 4) HX.out rfl)
 have c5 := fun x (hx : Spl N w1 x) => hx.slice (block_cell (j := 5) HX.out rfl)
 refine (spoilStore_any N w1 sa sn sc hsn H1.out HN0.out).mono ?_
 rintro e x1 ⟨rfl, hS1⟩
 have a4 := c4 _ hS1
 have HS1 := Lib.hid hS1
 clear hS1 H1 HX
 go_wp2_with fail
 refine (spoilStore_any N x1 oa no oc hon (H3.out.spl HS1.out) (Nat.le_trans HN0.out HS1.out.below.size)).mono ?_
 rintro e x2 ⟨rfl, hS2⟩
 have HS2 := Lib.hid (HS1.out.trans hS2)
 clear hS2 a4 H3 HS1
 go_wp2_with fail
 go_loopw [2] (fun i wr => ∃ k : Nat, k ≤ rn ∧ i = .int .i64 k ∧ Hid (Spl N w1 wr)) (fun i _ => rn - (intOf i).toNat)
 case atStart => exact ⟨0, Nat.zero_le _, rfl, HS2⟩
 case round =>
  clear HS2
  obtain ⟨k, hk, rfl, HS⟩ := hrel
  have a1 := c1 _ HS.out
  by_cases hlt : k < rn
  case pos =>
   obtain ⟨b, off, rfl, hb, hz⟩ := (H2.out.spl HS.out) (by omega)
   obtain ⟨f0, s, s0⟩ := hz k hlt
   simp only [Nat.add_zero] at f0 s0
   have hi1 : (0 : Int) ≤ (k : Int) := by omega
   have hi2 : (k : Int) < (rn : Int) := by omega
   have HT := Lib.hid (HS.out.trans (Spl.set hb s0 (u := .string ⟨#[63]⟩) (.inr (.inr (.inl ⟨_, _, rfl, rfl⟩)))))
   clear hz
   go_wp2_with fail
   go_roundw
   case rel => exact ⟨k + 1, by omega, by go_num, HT⟩
   case measure => simp [intOf]; omega
  case neg =>
   obtain rfl : k = rn := by omega
   go_wp2_with fail
   go_loopw [3] (fun i wr => ∃ k : Nat, k ≤ un ∧ i = .int .i64 k ∧ Hid (Spl N w1 wr)) (fun i _ => un - (intOf i).toNat)
   case atStart => exact ⟨0, Nat.zero_le _, rfl, HS⟩
   case round =>
    clear HS a1
    obtain ⟨j, hj, rfl, HS⟩ := hrel
    have a5 := c5 _ HS.out
    by_cases hlj : j < un
    case pos =>
     obtain ⟨b, off, rfl, hb, hz⟩ := (H4.out.spl HS.out) (by omega)
     obtain ⟨f0, s, s0⟩ := hz j hlj
     simp only [Nat.add_zero] at f0 s0
     have hi1 : (0 : Int) ≤ (j : Int) := by omega
     have hi2 : (j : Int) < (un : Int) := by omega
     have HT := Lib.hid (HS.out.trans (Spl.set hb s0 (u := .string ⟨#[63]⟩) (.inr (.inr (.inl ⟨_, _, rfl, rfl⟩)))))
     clear hz
     go_wp2_with fail
     go_roundw
     case rel => exact ⟨j + 1, by omega, by go_num, HT⟩
     case measure => simp [intOf]; omega
    case neg =>
     obtain rfl : j = un := by omega
     go_wp2_with fail
     go_end0
     exact ⟨rfl, HS0.out.trans HS.out⟩
end Go.Proofs.YtjdgpgfiomnjkaaGreatDoor
namespace Go.Proofs.YtjdgpgfiomnjkaaGreatDoor
open Go.RowKit
set_option linter.unusedVariables false
set_option linter.unusedSimpArgs false
def cntT (l : Array Bool) : Nat → Nat
 | 0 => 0
 | k + 1 => cntT l k + if l.getD k false = true then 1 else 0
theorem cntT_le (l : Array Bool) : ∀ k, cntT l k ≤ k
 | 0 => Nat.le_refl 0
 | k + 1 => by have := cntT_le l k; unfold cntT; split <;> omega
theorem cntT_full {l : Array Bool} : ∀ {k : Nat}, k ≤ cntT l k → ∀ i, i < k → l.getD i false = true
 | 0, _, i, hi => absurd hi (Nat.not_lt_zero _)
 | k + 1, h, i, hi => by
  have h1 := cntT_le l k
  unfold cntT at h
  split at h
  ·rename_i hk
   by_cases e : i = k
   ·rw [e]; exact hk
   ·exact cntT_full (k := k) (by omega) i (by omega)
  ·omega
theorem getD_of_false {l : Array Bool} {i : Nat} (h : l.getD i true = false) : i < l.size ∧ l.getD i false = false := by
 rcases Nat.lt_or_ge i l.size with h1 | h1
 ·refine ⟨h1, ?_⟩
  simp only [Array.getD_eq_getD_getElem?, Array.getElem?_eq_getElem h1, Option.getD_some] at h ⊢
  exact h
 ·simp [Array.getD_eq_getD_getElem?, Array.getElem?_eq_none h1] at h
theorem getD_set {l : Array Bool} {i : Nat} (hi : i < l.size) (j : Nat) : (l.setIfInBounds i true).getD j false = if j = i then true else l.getD j false := by
 simp only [Array.getD_eq_getD_getElem?, Array.getElem?_setIfInBounds]
 by_cases e : i = j
 ·subst e; simp [hi]
 ·rw [if_neg e, if_neg (fun h => e h.symm)]
theorem cntT_set {l : Array Bool} {i : Nat} (h : l.getD i true = false) : ∀ k, cntT (l.setIfInBounds i true) k = cntT l k + if i < k then 1 else 0
 | 0 => rfl
 | k + 1 => by
  obtain ⟨hi, hf⟩ := getD_of_false h
  have ih := cntT_set h k
  unfold cntT
  rw [ih, getD_set hi]
  by_cases e : k = i
  ·subst e
   have h2 : k < k + 1 := by omega
   have h3 : ¬ k < k := by omega
   simp only [if_pos h2, if_neg h3, hf]; simp
  ·rw [if_neg e]
   by_cases h1 : i < k
   ·have h2 : i < k + 1 := by omega
    simp only [if_pos h1, if_pos h2]; omega
   ·have h2 : ¬ i < k + 1 := by omega
    simp only [if_neg h1, if_neg h2]; omega
section
variable {P : Program} {md : Region.Mode} {ops : Array Oper} {Q : Exit → Act → World → Prop}
theorem any_inv {n : Nat} {a0 : Act} {w0 : World} (hn : ops.size = n) (hac : ∀ (i : Nat) (o : Oper), ops[i]? = some o → ∀ e ∈ o.after, e.on < i) (J : Act → Array Bool → Act → World → Prop) (h0 : J a0 (Array.replicate n false) a0 w0)
  (hstep : ∀ listed a w i o, listed.size = n → J a0 listed a w → listed.getD i true = false → ops[i]? = some o → (∀ e ∈ o.after, Region.binds md e = true → listed.getD e.on false = true) → wpOp P ops Q i (J a0 (listed.setIfInBounds i true)) a w)
  (hend : ∀ listed a w, listed.size = n → (∀ i, i < n → listed.getD i false = true) → J a0 listed a w → Q .normal a w) : wpAny P md ops Q n (Array.replicate n false) a0 w0 := by
 have main : ∀ (fuel : Nat) (listed : Array Bool) (a : Act) (w : World), listed.size = n → n ≤ fuel + cntT listed n → J a0 listed a w → wpAny P md ops Q fuel listed a w := by
  intro fuel
  induction fuel with
  | zero =>
   intro listed a w hs hc hJ
   have hall := cntT_full (l := listed) (k := n) (by omega)
   refine ⟨?_, hend listed a w hs hall hJ⟩
   refine List.eq_nil_iff_forall_not_mem.2 fun j hj => ?_
   obtain ⟨h1, o, ho, _⟩ := mem_ready.1 hj
   have hlt : j < n := by rw [← hn]; exact (Array.getElem?_eq_some_iff.1 ho).1
   have := (getD_of_false h1).2
   rw [hall j hlt] at this; cases this
  | succ fuel ih =>
   intro listed a w hs hc hJ
   refine ⟨fun hr => hend listed a w hs (fun i hi => ?_) hJ, fun i hi => ?_⟩
   ·induction i using Nat.strongRecOn with
    | ind i ih2 =>
     cases hg : listed.getD i false with
     | true => rfl
     | false =>
      exfalso
      have hlt : i < ops.size := by omega
      have hmem : i ∈ Region.ready md ops listed := mem_ready.2 ⟨by
       have hi' : i < listed.size := by omega
       simp only [Array.getD_eq_getD_getElem?, Array.getElem?_eq_getElem hi', Option.getD_some] at hg ⊢
       exact hg, _, Array.getElem?_eq_getElem hlt, fun e he _ => ih2 e.on (hac i _ (Array.getElem?_eq_getElem hlt) e he) (by have := hac i _ (Array.getElem?_eq_getElem hlt) e he; omega)⟩
      rw [hr] at hmem; cases hmem
   ·obtain ⟨h1, o, ho, hall⟩ := mem_ready.1 hi
    refine wpOp_mono (fun a' w' h' => ih _ a' w' (by simpa using hs) ?_ h') (hstep listed a w i o hs hJ h1 ho hall)
    rw [cntT_set h1]
    have hlt : i < n := by rw [← hs]; exact (getD_of_false h1).1
    rw [if_pos hlt]; omega
 exact main n _ a0 w0 (by simp) (by omega) h0
end
def chkAfter (ops : Array Oper) : Bool := (List.range ops.size).all fun i => match ops[i]? with
 | some o => o.after.all fun e => decide (e.on < i)
 | none => true
def chkDeps (md : Region.Mode) (ops : Array Oper) (deps : List (List Nat)) : Bool := (List.range ops.size).all fun i => match ops[i]? with
 | some o => (deps.getD i []).all fun j => o.after.any fun e => e.on == j && Region.binds md e
 | none => true
def nxt (f : Nat → Bool) (i : Nat) : Nat → Bool := fun j => if j = i then true else f j
section
variable {P : Program} {md : Region.Mode} {ops : Array Oper} {Q : Exit → Act → World → Prop}
theorem any_invD {n : Nat} {a0 : Act} {w0 : World} (deps : List (List Nat)) (J : (Nat → Bool) → Act → World → Prop) (h0 : J (fun _ => false) a0 w0)
  (hstep : ∀ i, i < n → ∀ f a w, J f a w → f i = false → (∀ j ∈ deps.getD i [], f j = true) → wpOp P ops Q i (J (nxt f i)) a w)
  (hend : ∀ f a w, (∀ i, i < n → f i = true) → J f a w → Q .normal a w)
  (hn : ops.size = n := by rfl) (hac : chkAfter ops = true := by kernel_rfl) (hd : chkDeps md ops deps = true := by kernel_rfl) : wpAny P md ops Q n (Array.replicate n false) a0 w0 := by
 refine any_inv hn (fun i o ho e he => ?_) (fun _ listed a w => J (fun j => listed.getD j false) a w) ?_ (fun listed a w i o hs hJ hi ho hdp => ?_) (fun listed a w hs hall hJ => hend _ a w hall hJ)
 ·have hlt : i < ops.size := (Array.getElem?_eq_some_iff.1 ho).1
  have := List.all_eq_true.1 hac i (List.mem_range.2 hlt)
  simp only [ho, Array.all_eq_true'] at this
  simpa using this e he
 ·have : (fun j => (Array.replicate n false).getD j false) = fun _ => false := by
   funext j
   simp only [Array.getD_eq_getD_getElem?, Array.getElem?_replicate]
   split <;> rfl
  show J (fun j => (Array.replicate n false).getD j false) a0 w0
  rw [this]; exact h0
 ·obtain ⟨hil, hif⟩ := getD_of_false hi
  have hlt : i < ops.size := (Array.getElem?_eq_some_iff.1 ho).1
  have := List.all_eq_true.1 hd i (List.mem_range.2 hlt)
  simp only [ho, List.all_eq_true] at this
  refine wpOp_mono (fun a' w' h' => ?_) (hstep i (by omega) _ a w hJ hif fun j hj => ?_)
  ·have e : (fun j => (listed.setIfInBounds i true).getD j false) = nxt (fun j => listed.getD j false) i := funext fun j => getD_set hil j
   show J (fun j => (listed.setIfInBounds i true).getD j false) a' w'
   rw [e]; exact h'
  ·have h1 := this j hj
   simp only [Array.any_eq_true'] at h1
   obtain ⟨e, he, h2⟩ := h1
   simp only [Bool.and_eq_true, beq_iff_eq] at h2
   have := hdp e he h2.2
   rw [h2.1] at this; exact this
theorem op_pure {i : Nat} {o : Oper} {K : Act → World → Prop} {a : Act} {w : World} (v : Value) (hy : (execOp a.eval o).run P w = .ok (.value v) w) (h : K (a.put o.dst v) w)
  (ho : ops[i]? = some o := by rfl) (hw : Region.wanted o (yielded ops a.tmps) = true := by rfl) : wpOp P ops Q i K a w := by
 unfold wpOp
 simp only [ho, hw, if_true]
 refine .inl ?_
 unfold Oper.wp
 rw [hy]; exact h
theorem op_any {i : Nat} {o : Oper} {K : Act → World → Prop} {a : Act} {w : World} (h : ∀ K', (∀ a w, K a w → K' a w) → o.wp P a w K' Q)
  (ho : ops[i]? = some o := by rfl) (hw : Region.wanted o (yielded ops a.tmps) = true := by rfl) : wpOp P ops Q i K a w := by
 unfold wpOp
 simp only [ho, hw, if_true]
 exact .inl (h _ fun _ _ h => h)
end
end Go.Proofs.YtjdgpgfiomnjkaaGreatDoor
namespace Go.Proofs.YtjdgpgfiomnjkaaGreatDoor
open Go.RowKit
set_option linter.unusedVariables false
set_option linter.unusedSimpArgs false
set_option linter.unusedSectionVars false
variable [Ghost]
theorem ints_upd9 {T : Nat → Prop} {w w' : World} {v : Value} {xs : List Int} {N : Nat} (h : IntsV (fun b => N ≤ b ∧ b < w.heap.size) w v xs) (hu : Upd T w w') (hT : ∀ b, (N ≤ b ∧ b < w.heap.size) → ¬ T b) : IntsV (fun b => N ≤ b ∧ b < w'.heap.size) w' v xs :=
 (h.same fun b hb => hu.block b hb.2 (hT b hb)).weaken fun b hb => ⟨hb.1, Nat.lt_of_lt_of_le hb.2 hu.size⟩
set_option maxRecDepth 100000 in
set_option maxHeartbeats 4000000 in
theorem copiedStore_any (l : List Obj) (lv : Value) (S : Nat → Prop) (w : World) (h : StoreV S w lv l) :
  Calls Tryz.prog 17 #[lv] w fun e w' => ∃ v, e = .returned v ∧ StoreV (fun b => w.heap.size ≤ b) w' v l ∧ Below w.heap.size w w' := by
 have h' := h
 obtain ⟨a, n, cap, la, ln, lc, HN, rfl, h1, h2, h3, h4, h5⟩ := h.open
 have HR0 := Lib.hid (show upTo l n = l by unfold upTo; rw [HN.out.1]; exact List.take_length)
 clear h4 h5 h
 obtain ⟨R, hR, hR1, hRall⟩ := cls_plain w
 have hRb := hR.below
 have hRn := hR.next
 go_enter Tryz.func17, Tryz.ntmps17
 go_wp2_with fail
 go_loopw [3, 4] (fun v i wr => ∃ k : Nat, k ≤ n ∧ i = .int .i64 k ∧ Hid (GathF w.heap.size wr v (upTo l k)) ∧ In R wr) (fun _ i _ => n - (intOf i).toNat)
 case atStart => exact ⟨0, by omega, rfl, ⟨fun _ => False, ⟨fun _ => .nilFunc, fun _ h => h.elim, World.ownsRow_nil _ _ _ _, fun i hi => by simp [upTo] at hi⟩, fun _ h => h.elim⟩, hR1⟩
 case round =>
  obtain ⟨k, hk, rfl, HG, hRw⟩ := hrel
  clear hR1
  by_cases hlt : k < n
  case neg =>
   obtain rfl : k = n := by omega
   obtain ⟨va, vc, hvs⟩ := HG.out.gath.shape
   have HSt := Lib.hid (HG.out.store (by rw [HR0.out, ← HN.out.1]; omega))
   subst hvs
   have HE := Lib.hid (hRb _ hRw)
   go_wp2_with fail
   go_ret
   exact ⟨_, rfl, by have := HSt.out; rw [HR0.out] at this ⊢; exact this, HE.out⟩
  case pos =>
   obtain ⟨a5, n5, c5, la5, ln5, lc5, HN5, e5, _, _, _, h45, h55⟩ := h'.open
   cases e5
   obtain ⟨b, off, rfl, hb, k0, k1, k2, k3⟩ := h45 (by omega)
   have x0 := k0 k wr hlt (hRb _ hRw)
   have x1 := k1 k wr hlt (hRb _ hRw)
   have x2 := k2 k wr hlt (hRb _ hRw)
   have x3 := k3 k wr hlt (hRb _ hRw)
   have Ho := Lib.hid (h55 k hlt)
   clear h45 h55 k0 k1 k2 k3 HN5
   have hi1 : (0 : Int) ≤ (k : Int) := by omega
   have hi2 : (k : Int) < (n : Int) := by omega
   obtain ⟨va, vc, hvs⟩ := HG.out.gath.shape
   subst hvs
   have hRB := hR.alloc _ (.cells #[.int .i64 (obj l k).id, .int .i64 (obj l k).kind, .slice (la5 k) (ln5 k) (lc5 k), .string (obj l k).text] 46) hRw
   have HX := Lib.hid (heap_alloc_new wr (.cells #[.int .i64 (obj l k).id, .int .i64 (obj l k).kind, .slice (la5 k) (ln5 k) (lc5 k), .string (obj l k).text] 46))
   obtain ⟨S0, hG0, hB0⟩ := HG.out
   have HS0 := Lib.hid (fun b (hb : S0 b) => (show b < wr.heap.size from by obtain ⟨_, g1, _⟩ := hG0; exact (g1 b hb).1))
   have HB0 := Lib.hid hB0
   have HGx := Lib.hid (hG0.below ((Below.refl _ _).alloc (Nat.le_refl _) (.cells #[.int .i64 (obj l k).id, .int .i64 (obj l k).kind, .slice (la5 k) (ln5 k) (lc5 k), .string (obj l k).text] 46)))
   have hRw0 := (hRb _ hRw).size
   clear hG0 hB0
   have hzx : (wr.alloc (.cells #[.int .i64 (obj l k).id, .int .i64 (obj l k).kind, .slice (la5 k) (ln5 k) (lc5 k), .string (obj l k).text] 46)).heap.size = wr.heap.size + 1 := by simp
   have hown : (Value.slice va (upTo l k).length vc).ownBlock ≠ some wr.heap.size := fun e => by have := (HG.out.gath.block e).2; omega
   go_upto_region 6 with fail
   clear x0 x1 x2 x3
   generalize wr.alloc (.cells #[.int .i64 (obj l k).id, .int .i64 (obj l k).kind, .slice (la5 k) (ln5 k) (lc5 k), .string (obj l k).text] 46) = y1 at *
   clear HG
   generalize hD : wr.heap.size = D at *
   obtain ⟨v2, y2, hap, ⟨q2, n2, c2, rfl⟩, hI2, hb2⟩ := clone_append 44 (Ho.out.1.below (hRb _ hRB))
   obtain ⟨⟨q3, c3⟩, e3⟩ := hI2.shape
   cases e3
   have hR2 := hRn _ _ hRB hb2
   have HX2 := Lib.hid (blk_below HX.out hb2)
   have HG2 := Lib.hid (HGx.out.below hb2)
   have HI2 := Lib.hid hI2.lt
   rw [hzx] at hap
   have Hap := Lib.hid hap
   have hy2 := hb2.size
   have hR2s := (hRb _ hR2).size
   clear hI2 hap hb2
   have z2 := block_cell (j := 2) (show (y1.alloc (.cells #[] 3)).heap[D]? = _ from (Below.heap_alloc _ _ _ (lt_of_block HX.out)).trans HX.out) rfl
   have g2 := block_cell (j := 2) HX2.out rfl
   have f2 := block_free (j := 2) HX2.out
   have hu3 : Upd (fun b => b = D) y2 (y2.setCell ⟨D, 2, none⟩ (.slice q3 (obj l k).links.length c3)) := (Upd.refl (fun b => b = D) _).setCell (p := ⟨D, 2, none⟩) (fun _ => rfl) _
   have hX3 : (y2.setCell ⟨D, 2, none⟩ (.slice q3 (obj l k).links.length c3)).heap[D]? = some (.cells #[.int .i64 (obj l k).id, .int .i64 (obj l k).kind, (.slice q3 (obj l k).links.length c3), .string (obj l k).text] 46 (0, 0)) := block_setCell (j := 2) HX2.out _
   have HG3 := Lib.hid (HG2.out.upd hu3 (fun b hb e => by have e2 : b = D := e; have := HS0.out b hb; omega) (fun g hg e => hown (by rw [hg]; exact congrArg some e)))
   have HI3 := Lib.hid (show ObjIs (fun b => y1.heap.size ≤ b ∧ b < (y2.setCell ⟨D, 2, none⟩ (.slice q3 (obj l k).links.length c3)).heap.size) (y2.setCell ⟨D, 2, none⟩ (.slice q3 (obj l k).links.length c3)) (obj l k) (.slice q3 (obj l k).links.length c3) from ⟨ints_upd9 HI2.out hu3 (fun b hb e => by have e2 : b = D := e; omega), Ho.out.2⟩)
   have hB3 := (hRb _ hR2).trans (hu3.below (B := w.heap.size) hR2s (fun b hb => by have e2 : b = D := hb; omega))
   have hR3 := hRall _ hB3
   have HX3 := Lib.hid hX3
   have hz3 := hu3.size
   clear hX3
   go_upto_region 7 with (at_builtin; refine wpList_append_run rfl (.tmp 16) (.tmp 18) 44 rfl _ _ _ rfl rfl Hap.out ?_)
   clear z2 g2 f2 hB3
   generalize y2.setCell ⟨D, 2, none⟩ (.slice q3 (obj l k).links.length c3) = y3 at *
   have o0 := block_cell (j := 0) HX3.out rfl
   have o1 := block_cell (j := 1) HX3.out rfl
   have o2 := block_cell (j := 2) HX3.out rfl
   have o3 := block_cell (j := 3) HX3.out rfl
   have hpl := upTo_length l k
   have hR3s := (hRb _ hR3).size
   have Hsep := Lib.hid (show ∀ b, (y1.heap.size ≤ b ∧ b < y3.heap.size) → b < y3.heap.size ∧ (Value.slice va (upTo l k).length vc).ownBlock ≠ some b from
    fun b hb => ⟨hb.2, fun e => by have := (HGx.out.gath.block e).2; omega⟩)
   go_wp2_with (at_builtin; refine wpList_append_objS rfl _ _ rfl HG3.out HI3.out rfl Hsep.out (by omega) hR3s rfl rfl (by first | rfl | simp) ?_)
   intro v' w5 hG5 hu5
   have hR5 : In R w5 := hRall _ ((hRb _ hR3).trans (hu5.below (B := w.heap.size) hR3s (fun b hb => (HG3.out.gath.block hb).1)))
   have HG5 := Lib.hid (show GathF w.heap.size w5 v' (upTo l (k + 1)) by rw [upTo_next (by rw [← HN.out.1]; exact hlt)]; exact ⟨_, hG5, fun b hb => by rcases hb with hb | hb; exact HB0.out b hb; have hb1 := hb.1; omega⟩)
   obtain ⟨va', vc', hvs'⟩ := hG5.gath.shape
   subst hvs'
   clear hG5 hu5 o0 o1 o2 o3
   go_wp2_with fail
   go_roundw
   case rel => exact ⟨k + 1, by omega, by go_num, HG5, hR5⟩
   case measure => simp [intOf]; omega
end Go.Proofs.YtjdgpgfiomnjkaaGreatDoor
