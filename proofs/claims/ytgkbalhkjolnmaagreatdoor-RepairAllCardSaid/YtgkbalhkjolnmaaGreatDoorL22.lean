
/- ClusI: walks of forestaylaw.first and clusterBegun. -/
import Derived.Test.YtgkbalhkjolnmaaGreatDoorL21
import Derived.Test.YtgkbalhkjolnmaaGreatDoorL13
import Derived.Test.YtgkbalhkjolnmaaGreatDoorL14
import Derived.Test.YtgkbalhkjolnmaaGreatDoorL10
import Derived.Deep.RegionHeld3
namespace Go.Proofs.YtgkbalhkjolnmaaGreatDoor
open Go.RowKit
set_option linter.unusedVariables false
set_option linter.unusedSimpArgs false
def mainB : ByteArray := ⟨#[109, 97, 105, 110]⟩
def firstP : Psh := ⟨shelfL.take 3, [⟨mainB, 0, 3⟩], false⟩
def oneR : Rep := ⟨shelfL.take 3, [⟨mainB, 3⟩], 1, 0, psh0⟩
def begL : List Rep := [oneR, oneR, rep0]
theorem cb1 : pushCE [rep0, rep0, rep0] firstP 3 0 = 0 := by decide +kernel
theorem cb2 : pushCL [rep0, rep0, rep0] firstP 3 0 = begL := (sameClu_iff _ _).1 (by decide +kernel)
theorem cb3 : pushCD [rep0, rep0, rep0] firstP 3 0 = true := by decide +kernel
theorem cb4 : pushCE begL firstP 7 0 = 0 := by decide +kernel
theorem cb5 : pushCL begL firstP 7 0 = begL := (sameClu_iff _ _).1 (by decide +kernel)
theorem cb6 : pushCD begL firstP 7 0 = false := by decide +kernel
theorem cb7 : pushCE [rep0, rep0, rep0] firstP 7 3 = 0 := by decide +kernel
theorem cb8 : pushCD [rep0, rep0, rep0] firstP 7 3 = false := by decide +kernel
theorem cb9 : cluE begL = 0 := by decide +kernel
theorem cb10 : newN begL = 0 := by decide +kernel
set_option maxRecDepth 100000 in
set_option maxHeartbeats 4000000 in
theorem first_any (w : World) : Calls Tryz.prog 43 #[] w fun e w' => RetPsh w w' e firstP := by
 have hb0 := (Below.refl w.heap.size w).alloc (Nat.le_refl _) (.cells #[.slice none 0 0, .slice none 0 0, .bool false] 28)
 have hk0 := heap_alloc_new w (.cells #[.slice none 0 0, .slice none 0 0, .bool false] 28)
 have hs0 : (w.alloc (.cells #[.slice none 0 0, .slice none 0 0, .bool false] 28)).heap.size = w.heap.size + 1 := by simp
 have HB0 := Lib.hid hb0
 have HK0 := Lib.hid hk0
 have HS0 := Lib.hid hs0
 clear hb0 hk0 hs0
 go_enter Tryz.func43, Tryz.ntmps43
 go_wp2_with fail
 refine (shelf_any _).mono ?_
 rintro e w1 ⟨v1, rfl, hv1, hb1⟩
 obtain ⟨a1, c1, hcap1, rfl⟩ : ∃ a c, 5 ≤ c ∧ v1 = .slice a shelfL.length c := let ⟨_, ⟨a, cap, hv, h1, _⟩, _⟩ := hv1; ⟨a, cap, h1, hv⟩
 have hT := hv1.lt.take (i := 3) (by decide)
 have hc3 : (3 : Int) ≤ (c1 : Int) := by omega
 rw [HS0.out] at hb1
 have hz1 := hb1.size
 rw [HS0.out] at hz1
 have hk1 := (hb1.block _ (by omega)).trans HK0.out
 have hB1 := HB0.out.trans (hb1.mono (by omega))
 have hU := mvs_new w1 firstP.updates 47 w1.heap.size rfl (by decide) (fun u hu => by
  simp only [firstP, List.mem_cons, List.not_mem_nil, or_false] at hu
  subst hu
  exact ⟨small64 _ (by decide), small64 _ (by decide), by decide⟩)
 have hbU := (Below.refl w1.heap.size w1).alloc (Nat.le_refl _) (.cells #[.string ⟨#[109, 97, 105, 110]⟩, .int .i64 0, .int .i64 3] 47)
 have hk2 := (hbU.block _ (by omega)).trans hk1
 have hT2 := hT.below hbU
 have hB2 := hB1.trans (hbU.mono (by omega))
 have HT := Lib.hid hT2
 have HU := Lib.hid (show MvsV (fun b => b = w1.heap.size) (w1.alloc (.cells #[.string ⟨#[109, 97, 105, 110]⟩, .int .i64 0, .int .i64 3] 47)) (.slice (some ⟨w1.heap.size, 0, none⟩) 1 1) firstP.updates from hU)
 have HB2 := Lib.hid hB2
 have HK2 := Lib.hid hk2
 have hz2 : (w1.alloc (.cells #[.string ⟨#[109, 97, 105, 110]⟩, .int .i64 0, .int .i64 3] 47)).heap.size = w1.heap.size + 1 := by simp
 have g0 := block_cell (j := 0) hk2 rfl
 have g1 := block_cell (j := 1) hk2 rfl
 have g2 := block_cell (j := 2) hk2 rfl
 have f0 := block_free (j := 0) hk2
 have f1 := block_free (j := 1) hk2
 have f2 := block_free (j := 2) hk2
 clear hv1 hT hk1 hB1 hU hbU hk2 hT2 hB2 hb1 HB0 HK0
 go_wp2_with fail
 change bodyPost _ _ _ _ _ (set3 w.heap.size (.slice a1 3 c1) (.slice (some ⟨w1.heap.size, 0, none⟩) 1 1) (.bool false) (w1.alloc (.cells #[.string ⟨#[109, 97, 105, 110]⟩, .int .i64 0, .int .i64 3] 47)))
 generalize w1.alloc (.cells #[.string ⟨#[109, 97, 105, 110]⟩, .int .i64 0, .int .i64 3] 47) = w2 at *
 have hb3 := set3_is (v0 := .slice a1 3 c1) (v1 := .slice (some ⟨w1.heap.size, 0, none⟩) 1 1) (v2 := .bool false) HK2.out
 have hu3 := set3_upd w.heap.size (.slice a1 3 c1) (.slice (some ⟨w1.heap.size, 0, none⟩) 1 1) (.bool false) w2
 generalize set3 w.heap.size (.slice a1 3 c1) (.slice (some ⟨w1.heap.size, 0, none⟩) 1 1) (.bool false) w2 = w3 at *
 have k0 := block_cell (j := 0) hb3 rfl
 have k1 := block_cell (j := 1) hb3 rfl
 have k2 := block_cell (j := 2) hb3 rfl
 refine bodyPost_ret (v := pshV firstP (.slice a1 3 c1) (.slice (some ⟨w1.heap.size, 0, none⟩) 1 1)) (by simp [results, Tryz.results43, go_sem]; simp [k0, k1, k2]; rfl) rfl ⟨_, _, rfl, ?_, ?_, ?_⟩
 ·exact (HT.out.upd' hu3 (fun b hb e => by have e2 : b = w.heap.size := e; have h1 := hb.1; have h2 := HS0.out; omega)).weaken fun b hb => by have h1 := hb.1; have h2 := HS0.out; omega
 ·exact (HU.out.upd hu3 (fun b hb e => by have e2 : b = w.heap.size := e; omega)).weaken fun b hb => by omega
 ·exact HB2.out.trans (hu3.below (B := w.heap.size) HB2.out.size (fun b hb => by have e2 : b = w.heap.size := hb; omega))
set_option maxRecDepth 100000 in
set_option maxHeartbeats 16000000 in
theorem clusterBegun_any (w : World) (ht : Tab w) : Calls Tryz.prog 13 #[] w fun e w' => e = .returned (.bool true) ∧ Below w.heap.size w w' := by
 have HT := Lib.hid (fun x (hx : Below w.heap.size w x) => ht.below hx)
 clear ht
 go_enter Tryz.func13, Tryz.ntmps13
 go_wp2_with fail
 refine (cluNew_any _).mono ?_
 rintro e w1 ⟨v1, rfl, hv1, hb1⟩
 obtain ⟨a1, c1, rfl⟩ := hv1.vshape
 have HB1 := Lib.hid hb1
 have Hv1 := Lib.hid hv1
 clear hv1 hb1
 go_wp2_with fail
 refine (first_any _).mono ?_
 rintro e w2 ⟨ov2, uv2, rfl, ho2, hu2, hb2⟩
 obtain ⟨oa2, oc2, rfl⟩ := ho2.vshape
 obtain ⟨⟨ua2, uc2⟩, rfl⟩ := hu2.shape
 have HB2 := Lib.hid (below_next HB1.out hb2)
 have HP := Lib.hid (cluPush_any _ firstP 3 0 _ _ _ _ _ w2 (Hv1.out.below hb2) ⟨ho2.weaken (S' := fun _ => True) (fun _ _ => trivial), hu2.weaken (fun _ _ => trivial)⟩ (HT.out _ HB2.out))
 rw [cb1, cb2, cb3] at HP
 simp only [pshV] at HP ⊢
 clear ho2 hu2 hb2 Hv1
 go_wp2_with fail
 refine HP.out.mono ?_
 rintro e w3 ⟨v3, rfl, hv3, hb3⟩
 obtain ⟨F3, hO3, _⟩ := hv3
 have hv3 := hO3.any (by decide)
 clear hO3
 obtain ⟨a3, n3, cap3, fr3, HN3, rfl, _, _, _, h43, h53⟩ := hv3.open
 obtain rfl : n3 = 3 := HN3.out
 obtain ⟨b3, off3, rfl, _, k0, k1, k2, k3, k4, k5, k6⟩ := h43 (by omega)
 have Hg1 := Lib.hid (fun x (hx : Below w3.heap.size w3 x) => show x.cell? ⟨b3, off3 + 7 + 2, none⟩ = some (.int .i64 1) from k2 1 x (by decide) hx)
 have Hg2 := Lib.hid (fun x (hx : Below w3.heap.size w3 x) => show x.cell? ⟨b3, off3 + 14 + 2, none⟩ = some (.int .i64 0) from k2 2 x (by decide) hx)
 have HB3 := Lib.hid (below_next HB2.out hb3)
 have Hv3 := Lib.hid hv3
 clear hb3 hv3 h43 h53 HN3 HP k0 k1 k2 k3 k4 k5 k6
 obtain ⟨T, hT, hT1, HTb0⟩ := cls_box w3 #[.slice (some ⟨b3, off3, none⟩) 3 cap3] 24
 have hTb := hT.below
 have hTn := hT.next
 have c0 := fun x (hx : In T x) => HTb0 0 _ rfl x hx
 have HAx := Lib.hid (show ∀ x, In T x → Below w3.heap.size w3 x from fun x hx => hTb _ hx)
 have HBx := Lib.hid (fun x (hx : In T x) => below_next HB3.out (HAx.out x hx))
 have HPx := Lib.hid (fun x ov uv (hx : In T x) (ho : StoreV (fun _ => True) x ov firstP.objects) (hu : MvsV (fun _ => True) x uv firstP.updates) => (show Calls Tryz.prog 8 #[.agg #[.slice (some ⟨b3, off3, none⟩) 3 cap3], pshV firstP ov uv, .int .i64 7, .int .i64 0] x fun e w' => ∃ v', e = .returned (.tuple #[.agg #[v'], .bool false, .int .i64 0]) ∧ OwnF x.heap.size w' v' begL ∧ Below x.heap.size x w' from by
  have hC := cluPush_any begL firstP 7 0 _ ov uv _ _ x (Hv3.out.below (HAx.out _ hx)) ⟨ho, hu⟩ (HT.out _ (HBx.out _ hx))
  rw [cb4, cb5, cb6] at hC
  exact hC))
 have cc := c0 _ hT1
 go_upto_region 2 with fail
 go_cut [4, 5, 6] (fun s4 s5 s6 wx => ∃ D4, s4 = .pointer (some ⟨D4, 0, none⟩) ∧ s5 = .bool false ∧ s6 = .int .i64 0 ∧ ∃ y, y = wx ∧ Hid (In T y ∧ ∃ a4 c4, y.heap[D4]? = some (.cells #[.slice a4 3 c4] 24 (0, 0)) ∧ RepsV (fun _ => True) y (.slice a4 3 c4) begL))
 case first =>
  obtain ⟨Q, hQ, hQ1, hQu⟩ := cls_new (w3.alloc (.cells #[.slice (some ⟨b3, off3, none⟩) 3 cap3] 24))
  have hQb := hQ.below
  have hQn := hQ.next
  have HQu := Lib.hid hQu
  clear hQu
  have HQT := Lib.hid (fun x (hx : In Q x) => hTn _ _ hT1 (hQb _ hx))
  have d0 := fun x (hx : In Q x) => c0 _ (HQT.out x hx)
  clear cc
  refine wp_region_held (S := In Q) (by kernel_rfl) ?_
  change wpAnyH _ _ _ _ _ _ _ _ (World.drew _)
  have hC0 := hQ.drew _ hQ1
  generalize hx0 : (w3.alloc (.cells #[.slice (some ⟨b3, off3, none⟩) 3 cap3] 24)).drew = x0 at hC0 ⊢
  clear hx0
  refine wpAnyH_take (i := 0) (v := .agg #[.slice (some ⟨b3, off3, none⟩) 3 cap3]) rfl (by kernel_rfl) (by kernel_rfl) (by kernel_rfl) (fun _ _ _ h => h) (Or.inl ⟨by rfl, fun w hSw => ?_⟩) hC0 ?_
  ·have yy := d0 _ hSw; go_simp
  simp only [Act.put, List.getElem_toArray, List.getElem_cons_zero, List.getElem_cons_succ, List.setIfInBounds_toArray, List.set_cons_zero, List.set_cons_succ]
  refine wpAnyH_all (rs := [1, 7]) (by kernel_rfl) (by simp) (fun j hj => ?_)
  rcases List.mem_cons.1 hj with rfl | hj
  ·skip
   refine Or.inl ?_
   go_wp2_with fail
   refine (first_any _).mono ?_
   rintro e x10 ⟨ov4, uv4, rfl, ho4, hu4, hb0⟩
   obtain ⟨oa4, oc4, rfl⟩ := ho4.vshape
   obtain ⟨⟨ua4, uc4⟩, rfl⟩ := hu4.shape
   have hC1 := hQn _ _ hC0 hb0
   have Hos := Lib.hid (ho4.weaken (S' := fun _ => True) fun _ _ => trivial)
   have Hom := Lib.hid (hu4.weaken (S' := fun _ => True) fun _ _ => trivial)
   clear ho4 hu4 hb0
   generalize x10 = x1 at *
   simp only [pshV]
   go_simp
   refine wpAnyH_all (rs := [2, 7]) (by kernel_rfl) (by simp) (fun j hj => ?_)
   rcases List.mem_cons.1 hj with rfl | hj
   ·skip
    refine Or.inl ?_
    have HP4 := Lib.hid (HPx.out _ _ _ (HQT.out _ hC1) Hos.out Hom.out)
    simp only [pshV] at HP4
    clear Hos Hom
    go_wp2_with fail
    refine HP4.out.mono ?_
    rintro e x11 ⟨v4, rfl, hv4, hb0⟩
    have hC2 := hQn _ _ hC1 hb0
    obtain ⟨F4, hO4, hF4⟩ := hv4
    obtain ⟨a4, c4, hs4⟩ := hO4.shape
    replace hs4 : v4 = .slice a4 3 c4 := hs4
    subst hs4
    have Hv4 := Lib.hid (show RepsV (fun b => x1.heap.size ≤ b) x11 (.slice a4 3 c4) begL from hO4.reps (by decide) hF4 (fun b hb => (hO4.block hb).1))
    clear hO4 hF4 hb0 HP4
    generalize x11 = x2 at *
    go_simp
    refine wpAnyH_take (i := 3) (v := .tuple #[.agg #[.slice a4 3 c4], .bool false, .int .i64 0]) rfl (by kernel_rfl) (by kernel_rfl) (by kernel_rfl) (fun _ _ _ h => h) (Or.inl ⟨by rfl, fun w hSw => ?_⟩) hC2 ?_
    ·go_simp
    simp only [Act.put, List.getElem_toArray, List.getElem_cons_zero, List.getElem_cons_succ, List.setIfInBounds_toArray, List.set_cons_zero, List.set_cons_succ]
    refine wpAnyH_take (i := 4) (v := .agg #[.slice a4 3 c4]) rfl (by kernel_rfl) (by kernel_rfl) (by kernel_rfl) (fun _ _ _ h => h) (Or.inl ⟨by rfl, fun w hSw => ?_⟩) hC2 ?_
    ·go_simp
    simp only [Act.put, List.getElem_toArray, List.getElem_cons_zero, List.getElem_cons_succ, List.setIfInBounds_toArray, List.set_cons_zero, List.set_cons_succ]
    refine wpAnyH_take (i := 5) (v := .bool false) rfl (by kernel_rfl) (by kernel_rfl) (by kernel_rfl) (fun _ _ _ h => h) (Or.inl ⟨by rfl, fun w hSw => ?_⟩) hC2 ?_
    ·go_simp
    simp only [Act.put, List.getElem_toArray, List.getElem_cons_zero, List.getElem_cons_succ, List.setIfInBounds_toArray, List.set_cons_zero, List.set_cons_succ]
    refine wpAnyH_take (i := 6) (v := .int .i64 0) rfl (by kernel_rfl) (by kernel_rfl) (by kernel_rfl) (fun _ _ _ h => h) (Or.inl ⟨by rfl, fun w hSw => ?_⟩) hC2 ?_
    ·go_simp
    simp only [Act.put, List.getElem_toArray, List.getElem_cons_zero, List.getElem_cons_succ, List.setIfInBounds_toArray, List.set_cons_zero, List.set_cons_succ]
    refine wpAnyH_all (rs := [7]) (by kernel_rfl) (by simp) (fun j hj => ?_)
    obtain rfl : j = 7 := by simpa using hj
    refine Or.inl ?_
    have hbA0 : Below x2.heap.size x2 (x2.alloc (.cells #[.slice none 0 0] 24)) := (Below.refl _ _).alloc (Nat.le_refl _) _
    have Hv5 := Lib.hid ((Hv4.out.low.below hbA0).weaken (S' := fun b => b ≠ x2.heap.size) fun b hb e => by have := hb.2; omega)
    clear Hv4 hbA0
    have hC3 := hQ.alloc _ (.cells #[.slice none 0 0] 24) hC2
    go_simp
    have hbA : Below x2.heap.size x2 (x2.alloc (.cells #[.slice none 0 0] 24)) := (Below.refl _ _).alloc (Nat.le_refl _) _
    have HDb := Lib.hid (heap_alloc_new x2 (.cells #[.slice none 0 0] 24))
    have HDge := Lib.hid (hQb _ hC2).size
    clear hbA
    generalize x2.heap.size = D at *
    generalize x2.alloc (.cells #[.slice none 0 0] 24) = x3 at *
    refine wpAnyH_all (rs := [8]) (by kernel_rfl) (by simp) (fun j hj => ?_)
    obtain rfl : j = 8 := by simpa using hj
    refine Or.inl ?_
    have gz := block_cell (j := 0) HDb.out rfl
    have fz := block_free (j := 0) HDb.out
    have Hu7 := Lib.hid (show Upd (fun b => b = D) x3 (x3.setCell ⟨D, 0, none⟩ (.slice a4 3 c4)) from (Upd.refl (fun b => b = D) _).setCell (p := ⟨D, 0, none⟩) (fun _ => rfl) _)
    have Hb7 := Lib.hid (block_setCell (j := 0) HDb.out (.slice a4 3 c4))
    have hQ7 := HQu.out _ _ _ hC3 Hu7.out (fun b hb => by have := HDge.out; have e2 : b = D := hb; omega)
    have Hv7 := Lib.hid ((Hv5.out.upd Hu7.out (fun b hb e => hb e)).weaken (S' := fun _ => True) fun _ _ => trivial)
    go_wp2_with fail
    first | refine ⟨hQ7, ?_⟩ | skip
    change wpAnyH _ _ _ _ _ _ _ _ (x3.setCell ⟨D, 0, none⟩ (.slice a4 3 c4))
    generalize x3.setCell ⟨D, 0, none⟩ (.slice a4 3 c4) = w7 at *
    clear gz fz Hu7
    refine wpAnyH_take (i := 9) (v := .bool false) rfl (by kernel_rfl) (by kernel_rfl) (by kernel_rfl) (fun _ _ _ h => h) (Or.inl ⟨by rfl, fun w hSw => ?_⟩) hQ7 ?_
    ·go_simp
    simp only [Act.put, List.getElem_toArray, List.getElem_cons_zero, List.getElem_cons_succ, List.setIfInBounds_toArray, List.set_cons_zero, List.set_cons_succ]
    refine wpAnyH_all (rs := [10]) (by kernel_rfl) (by simp) (fun j hj => ?_)
    obtain rfl : j = 10 := by simpa using hj
    refine Or.inl ?_
    go_wp2_with fail
    first | refine ⟨hQ7, by kernel_rfl, ?_⟩ | refine ⟨by kernel_rfl, ?_⟩
    have HEnd := Lib.hid (show In T w7 ∧ ∃ a4 c4, w7.heap[D]? = some (.cells #[.slice a4 3 c4] 24 (0, 0)) ∧ RepsV (fun _ => True) w7 (.slice a4 3 c4) begL from ⟨HQT.out _ hQ7, a4, c4, Hb7.out, Hv7.out⟩)
    go_wp2_with fail
    go_meet
    exact ⟨D, rfl, rfl, rfl, w7, rfl, HEnd⟩
   ·skip
    obtain rfl : j = 7 := by simpa using hj
    refine Or.inl ?_
    have hC2 := hQ.alloc _ (.cells #[.slice none 0 0] 24) hC1
    go_simp
    have hbA : Below x1.heap.size x1 (x1.alloc (.cells #[.slice none 0 0] 24)) := (Below.refl _ _).alloc (Nat.le_refl _) _
    have HDb := Lib.hid (heap_alloc_new x1 (.cells #[.slice none 0 0] 24))
    have HDge := Lib.hid (hQb _ hC1).size
    replace Hos := Lib.hid (Hos.out.below hbA)
    replace Hom := Lib.hid (Hom.out.below hbA)
    clear hbA
    generalize x1.heap.size = D at *
    generalize x1.alloc (.cells #[.slice none 0 0] 24) = x2 at *
    refine wpAnyH_all (rs := [2]) (by kernel_rfl) (by simp) (fun j hj => ?_)
    obtain rfl : j = 2 := by simpa using hj
    refine Or.inl ?_
    have HP4 := Lib.hid (HPx.out _ _ _ (HQT.out _ hC2) Hos.out Hom.out)
    simp only [pshV] at HP4
    clear Hos Hom
    go_wp2_with fail
    refine HP4.out.mono ?_
    rintro e x12 ⟨v4, rfl, hv4, hb0⟩
    have hC3 := hQn _ _ hC2 hb0
    obtain ⟨F4, hO4, hF4⟩ := hv4
    obtain ⟨a4, c4, hs4⟩ := hO4.shape
    replace hs4 : v4 = .slice a4 3 c4 := hs4
    subst hs4
    have Hv4 := Lib.hid (show RepsV (fun b => x2.heap.size ≤ b) x12 (.slice a4 3 c4) begL from hO4.reps (by decide) hF4 (fun b hb => (hO4.block hb).1))
    have HDx := Lib.hid (show D < x2.heap.size from lt_of_block HDb.out)
    replace HDb := Lib.hid (blk_below HDb.out hb0)
    have Hv5 := Lib.hid (Hv4.out.weaken (S' := fun b => b ≠ D) fun b hb e => by have := HDx.out; omega)
    clear Hv4
    clear hO4 hF4 hb0 HP4
    generalize x12 = x3 at *
    go_simp
    refine wpAnyH_take (i := 3) (v := .tuple #[.agg #[.slice a4 3 c4], .bool false, .int .i64 0]) rfl (by kernel_rfl) (by kernel_rfl) (by kernel_rfl) (fun _ _ _ h => h) (Or.inl ⟨by rfl, fun w hSw => ?_⟩) hC3 ?_
    ·go_simp
    simp only [Act.put, List.getElem_toArray, List.getElem_cons_zero, List.getElem_cons_succ, List.setIfInBounds_toArray, List.set_cons_zero, List.set_cons_succ]
    refine wpAnyH_take (i := 4) (v := .agg #[.slice a4 3 c4]) rfl (by kernel_rfl) (by kernel_rfl) (by kernel_rfl) (fun _ _ _ h => h) (Or.inl ⟨by rfl, fun w hSw => ?_⟩) hC3 ?_
    ·go_simp
    simp only [Act.put, List.getElem_toArray, List.getElem_cons_zero, List.getElem_cons_succ, List.setIfInBounds_toArray, List.set_cons_zero, List.set_cons_succ]
    refine wpAnyH_take (i := 5) (v := .bool false) rfl (by kernel_rfl) (by kernel_rfl) (by kernel_rfl) (fun _ _ _ h => h) (Or.inl ⟨by rfl, fun w hSw => ?_⟩) hC3 ?_
    ·go_simp
    simp only [Act.put, List.getElem_toArray, List.getElem_cons_zero, List.getElem_cons_succ, List.setIfInBounds_toArray, List.set_cons_zero, List.set_cons_succ]
    refine wpAnyH_take (i := 6) (v := .int .i64 0) rfl (by kernel_rfl) (by kernel_rfl) (by kernel_rfl) (fun _ _ _ h => h) (Or.inl ⟨by rfl, fun w hSw => ?_⟩) hC3 ?_
    ·go_simp
    simp only [Act.put, List.getElem_toArray, List.getElem_cons_zero, List.getElem_cons_succ, List.setIfInBounds_toArray, List.set_cons_zero, List.set_cons_succ]
    refine wpAnyH_all (rs := [8]) (by kernel_rfl) (by simp) (fun j hj => ?_)
    obtain rfl : j = 8 := by simpa using hj
    refine Or.inl ?_
    have gz := block_cell (j := 0) HDb.out rfl
    have fz := block_free (j := 0) HDb.out
    have Hu7 := Lib.hid (show Upd (fun b => b = D) x3 (x3.setCell ⟨D, 0, none⟩ (.slice a4 3 c4)) from (Upd.refl (fun b => b = D) _).setCell (p := ⟨D, 0, none⟩) (fun _ => rfl) _)
    have Hb7 := Lib.hid (block_setCell (j := 0) HDb.out (.slice a4 3 c4))
    have hQ7 := HQu.out _ _ _ hC3 Hu7.out (fun b hb => by have := HDge.out; have e2 : b = D := hb; omega)
    have Hv7 := Lib.hid ((Hv5.out.upd Hu7.out (fun b hb e => hb e)).weaken (S' := fun _ => True) fun _ _ => trivial)
    go_wp2_with fail
    first | refine ⟨hQ7, ?_⟩ | skip
    change wpAnyH _ _ _ _ _ _ _ _ (x3.setCell ⟨D, 0, none⟩ (.slice a4 3 c4))
    generalize x3.setCell ⟨D, 0, none⟩ (.slice a4 3 c4) = w7 at *
    clear gz fz Hu7
    refine wpAnyH_take (i := 9) (v := .bool false) rfl (by kernel_rfl) (by kernel_rfl) (by kernel_rfl) (fun _ _ _ h => h) (Or.inl ⟨by rfl, fun w hSw => ?_⟩) hQ7 ?_
    ·go_simp
    simp only [Act.put, List.getElem_toArray, List.getElem_cons_zero, List.getElem_cons_succ, List.setIfInBounds_toArray, List.set_cons_zero, List.set_cons_succ]
    refine wpAnyH_all (rs := [10]) (by kernel_rfl) (by simp) (fun j hj => ?_)
    obtain rfl : j = 10 := by simpa using hj
    refine Or.inl ?_
    go_wp2_with fail
    first | refine ⟨hQ7, by kernel_rfl, ?_⟩ | refine ⟨by kernel_rfl, ?_⟩
    have HEnd := Lib.hid (show In T w7 ∧ ∃ a4 c4, w7.heap[D]? = some (.cells #[.slice a4 3 c4] 24 (0, 0)) ∧ RepsV (fun _ => True) w7 (.slice a4 3 c4) begL from ⟨HQT.out _ hQ7, a4, c4, Hb7.out, Hv7.out⟩)
    go_wp2_with fail
    go_meet
    exact ⟨D, rfl, rfl, rfl, w7, rfl, HEnd⟩
  ·skip
   obtain rfl : j = 7 := by simpa using hj
   refine Or.inl ?_
   have hC1 := hQ.alloc _ (.cells #[.slice none 0 0] 24) hC0
   go_simp
   have hbA : Below x0.heap.size x0 (x0.alloc (.cells #[.slice none 0 0] 24)) := (Below.refl _ _).alloc (Nat.le_refl _) _
   have HDb := Lib.hid (heap_alloc_new x0 (.cells #[.slice none 0 0] 24))
   have HDge := Lib.hid (hQb _ hC0).size
   clear hbA
   generalize x0.heap.size = D at *
   generalize x0.alloc (.cells #[.slice none 0 0] 24) = x1 at *
   refine wpAnyH_all (rs := [1]) (by kernel_rfl) (by simp) (fun j hj => ?_)
   obtain rfl : j = 1 := by simpa using hj
   refine Or.inl ?_
   go_wp2_with fail
   refine (first_any _).mono ?_
   rintro e x11 ⟨ov4, uv4, rfl, ho4, hu4, hb0⟩
   obtain ⟨oa4, oc4, rfl⟩ := ho4.vshape
   obtain ⟨⟨ua4, uc4⟩, rfl⟩ := hu4.shape
   have hC2 := hQn _ _ hC1 hb0
   replace HDb := Lib.hid (blk_below HDb.out hb0)
   have Hos := Lib.hid (ho4.weaken (S' := fun _ => True) fun _ _ => trivial)
   have Hom := Lib.hid (hu4.weaken (S' := fun _ => True) fun _ _ => trivial)
   clear ho4 hu4 hb0
   generalize x11 = x2 at *
   simp only [pshV]
   go_simp
   refine wpAnyH_all (rs := [2]) (by kernel_rfl) (by simp) (fun j hj => ?_)
   obtain rfl : j = 2 := by simpa using hj
   refine Or.inl ?_
   have HP4 := Lib.hid (HPx.out _ _ _ (HQT.out _ hC2) Hos.out Hom.out)
   simp only [pshV] at HP4
   clear Hos Hom
   go_wp2_with fail
   refine HP4.out.mono ?_
   rintro e x12 ⟨v4, rfl, hv4, hb0⟩
   have hC3 := hQn _ _ hC2 hb0
   obtain ⟨F4, hO4, hF4⟩ := hv4
   obtain ⟨a4, c4, hs4⟩ := hO4.shape
   replace hs4 : v4 = .slice a4 3 c4 := hs4
   subst hs4
   have Hv4 := Lib.hid (show RepsV (fun b => x2.heap.size ≤ b) x12 (.slice a4 3 c4) begL from hO4.reps (by decide) hF4 (fun b hb => (hO4.block hb).1))
   have HDx := Lib.hid (show D < x2.heap.size from lt_of_block HDb.out)
   replace HDb := Lib.hid (blk_below HDb.out hb0)
   have Hv5 := Lib.hid (Hv4.out.weaken (S' := fun b => b ≠ D) fun b hb e => by have := HDx.out; omega)
   clear Hv4
   clear hO4 hF4 hb0 HP4
   generalize x12 = x3 at *
   go_simp
   refine wpAnyH_take (i := 3) (v := .tuple #[.agg #[.slice a4 3 c4], .bool false, .int .i64 0]) rfl (by kernel_rfl) (by kernel_rfl) (by kernel_rfl) (fun _ _ _ h => h) (Or.inl ⟨by rfl, fun w hSw => ?_⟩) hC3 ?_
   ·go_simp
   simp only [Act.put, List.getElem_toArray, List.getElem_cons_zero, List.getElem_cons_succ, List.setIfInBounds_toArray, List.set_cons_zero, List.set_cons_succ]
   refine wpAnyH_take (i := 4) (v := .agg #[.slice a4 3 c4]) rfl (by kernel_rfl) (by kernel_rfl) (by kernel_rfl) (fun _ _ _ h => h) (Or.inl ⟨by rfl, fun w hSw => ?_⟩) hC3 ?_
   ·go_simp
   simp only [Act.put, List.getElem_toArray, List.getElem_cons_zero, List.getElem_cons_succ, List.setIfInBounds_toArray, List.set_cons_zero, List.set_cons_succ]
   refine wpAnyH_take (i := 5) (v := .bool false) rfl (by kernel_rfl) (by kernel_rfl) (by kernel_rfl) (fun _ _ _ h => h) (Or.inl ⟨by rfl, fun w hSw => ?_⟩) hC3 ?_
   ·go_simp
   simp only [Act.put, List.getElem_toArray, List.getElem_cons_zero, List.getElem_cons_succ, List.setIfInBounds_toArray, List.set_cons_zero, List.set_cons_succ]
   refine wpAnyH_take (i := 6) (v := .int .i64 0) rfl (by kernel_rfl) (by kernel_rfl) (by kernel_rfl) (fun _ _ _ h => h) (Or.inl ⟨by rfl, fun w hSw => ?_⟩) hC3 ?_
   ·go_simp
   simp only [Act.put, List.getElem_toArray, List.getElem_cons_zero, List.getElem_cons_succ, List.setIfInBounds_toArray, List.set_cons_zero, List.set_cons_succ]
   refine wpAnyH_all (rs := [8]) (by kernel_rfl) (by simp) (fun j hj => ?_)
   obtain rfl : j = 8 := by simpa using hj
   refine Or.inl ?_
   have gz := block_cell (j := 0) HDb.out rfl
   have fz := block_free (j := 0) HDb.out
   have Hu7 := Lib.hid (show Upd (fun b => b = D) x3 (x3.setCell ⟨D, 0, none⟩ (.slice a4 3 c4)) from (Upd.refl (fun b => b = D) _).setCell (p := ⟨D, 0, none⟩) (fun _ => rfl) _)
   have Hb7 := Lib.hid (block_setCell (j := 0) HDb.out (.slice a4 3 c4))
   have hQ7 := HQu.out _ _ _ hC3 Hu7.out (fun b hb => by have := HDge.out; have e2 : b = D := hb; omega)
   have Hv7 := Lib.hid ((Hv5.out.upd Hu7.out (fun b hb e => hb e)).weaken (S' := fun _ => True) fun _ _ => trivial)
   go_wp2_with fail
   first | refine ⟨hQ7, ?_⟩ | skip
   change wpAnyH _ _ _ _ _ _ _ _ (x3.setCell ⟨D, 0, none⟩ (.slice a4 3 c4))
   generalize x3.setCell ⟨D, 0, none⟩ (.slice a4 3 c4) = w7 at *
   clear gz fz Hu7
   refine wpAnyH_take (i := 9) (v := .bool false) rfl (by kernel_rfl) (by kernel_rfl) (by kernel_rfl) (fun _ _ _ h => h) (Or.inl ⟨by rfl, fun w hSw => ?_⟩) hQ7 ?_
   ·go_simp
   simp only [Act.put, List.getElem_toArray, List.getElem_cons_zero, List.getElem_cons_succ, List.setIfInBounds_toArray, List.set_cons_zero, List.set_cons_succ]
   refine wpAnyH_all (rs := [10]) (by kernel_rfl) (by simp) (fun j hj => ?_)
   obtain rfl : j = 10 := by simpa using hj
   refine Or.inl ?_
   go_wp2_with fail
   first | refine ⟨hQ7, by kernel_rfl, ?_⟩ | refine ⟨by kernel_rfl, ?_⟩
   have HEnd := Lib.hid (show In T w7 ∧ ∃ a4 c4, w7.heap[D]? = some (.cells #[.slice a4 3 c4] 24 (0, 0)) ∧ RepsV (fun _ => True) w7 (.slice a4 3 c4) begL from ⟨HQT.out _ hQ7, a4, c4, Hb7.out, Hv7.out⟩)
   go_wp2_with fail
   go_meet
   exact ⟨D, rfl, rfl, rfl, w7, rfl, HEnd⟩
 case rest =>
  obtain ⟨D4, rfl, rfl, rfl, y4, rfl, HK4⟩ := hcut
  obtain ⟨hT4, a4, c4, hD4, hv4⟩ := HK4.out
  have HD4 := Lib.hid hD4
  have Hv4 := Lib.hid hv4
  clear HK4 hD4 hv4 cc
  go_wp2_with fail
  refine (cluNew_any _).mono ?_
  rintro e w5 ⟨v5, rfl, hv5, hb5⟩
  obtain ⟨a5, c5, rfl⟩ := hv5.vshape
  have hT5 := hTn _ _ hT4 hb5
  have HD5 := Lib.hid (blk_below HD4.out hb5)
  have Hv45 := Lib.hid (Hv4.out.below hb5)
  have Hv5 := Lib.hid hv5
  clear hv5 hb5 HD4 Hv4
  go_wp2_with fail
  refine (first_any _).mono ?_
  rintro e w6 ⟨ov6, uv6, rfl, ho6, hu6, hb6⟩
  obtain ⟨oa6, oc6, rfl⟩ := ho6.vshape
  obtain ⟨⟨ua6, uc6⟩, rfl⟩ := hu6.shape
  have hT6 := hTn _ _ hT5 hb6
  have HP := Lib.hid (cluPush_any _ firstP 7 3 _ _ _ _ _ w6 (Hv5.out.below hb6) ⟨ho6.weaken (S' := fun _ => True) (fun _ _ => trivial), hu6.weaken (fun _ _ => trivial)⟩ (HT.out _ (HBx.out _ hT6)))
  rw [cb7, cb8] at HP
  simp only [pshV] at HP ⊢
  have HD6 := Lib.hid (blk_below HD5.out hb6)
  have Hv46 := Lib.hid (Hv45.out.below hb6)
  clear ho6 hu6 hb6 Hv5 HD5 Hv45
  go_wp2_with fail
  refine HP.out.mono ?_
  rintro e w7 ⟨v7, rfl, hv7, hb7⟩
  obtain ⟨F7, hO7, _⟩ := hv7
  obtain ⟨a7, c7, rfl⟩ := hO7.shape
  have hT7 := hTn _ _ hT6 hb7
  have HD7 := Lib.hid (blk_below HD6.out hb7)
  have Hv47 := Lib.hid (Hv46.out.below hb7)
  clear hO7 hb7 HP HD6 Hv46
  generalize (pushCL [rep0, rep0, rep0] firstP 7 3).length = n7 at *
  have hT8 := hT.alloc _ (.cells #[.slice a7 n7 c7] 24) hT7
  have hbA : Below w7.heap.size w7 (w7.alloc (.cells #[.slice a7 n7 c7] 24)) := (Below.refl _ _).alloc (Nat.le_refl _) _
  have HD8 := Lib.hid (blk_below HD7.out hbA)
  have Hv48 := Lib.hid (Hv47.out.below hbA)
  clear hbA HD7 Hv47
  have cc := c0 _ hT8
  have HNw := Lib.hid (fun x (hx : In T x) => newest_any begL _ _ x (Hv3.out.below (HAx.out _ hx)))
  rw [cb9, cb10] at HNw
  have HCk := Lib.hid (fun x (hx : In T x) => cluCheck_any begL _ _ x (Hv3.out.below (HAx.out _ hx)))
  rw [cb9] at HCk
  go_wp2_with fail
  refine (HNw.out _ hT8).mono ?_
  rintro e w9 ⟨rfl, hb9⟩
  have hT9 := hTn _ _ hT8 hb9
  have HD9 := Lib.hid (blk_below HD8.out hb9)
  have Hv49 := Lib.hid (Hv48.out.below hb9)
  clear hb9 HD8 Hv48 cc
  have cc := c0 _ hT9
  go_wp2_with fail
  refine (HCk.out _ hT9).mono ?_
  rintro e w10 ⟨rfl, hb10⟩
  have hT10 := hTn _ _ hT9 hb10
  have HD10 := Lib.hid (blk_below HD9.out hb10)
  have Hv410 := Lib.hid (Hv49.out.below hb10)
  clear hb10 HD9 Hv49 cc
  have cc := c0 _ hT10
  have dd := block_cell (j := 0) HD10.out rfl
  have y1 := Hg1.out _ (HAx.out _ hT10)
  have y2 := Hg2.out _ (HAx.out _ hT10)
  have HS := Lib.hid (sameCluster_any begL begL _ _ _ _ w10 (Hv3.out.below (HAx.out _ hT10)) Hv410.out)
  rw [(sameClu_iff _ _).2 rfl] at HS
  go_wp2_with fail
  refine HS.out.mono ?_
  rintro e w11 ⟨rfl, hb11⟩
  have HE := Lib.hid (HBx.out _ (hTn _ _ hT10 hb11))
  clear hb11
  go_wp2_with fail
  go_ret
  exact ⟨rfl, HE.out⟩
end Go.Proofs.YtgkbalhkjolnmaaGreatDoor
namespace Go.Proofs.YtgkbalhkjolnmaaGreatDoor
open Go.RowKit
set_option linter.unusedVariables false
set_option linter.unusedSimpArgs false
theorem GathS.push {B : Nat} {w w1 : World} {v v' : Value} {l : List Obj} {o : Obj} {lv : Value} {S S2 : Nat → Prop} {ob : Go.Obj} {lvs : Nat → Value}
  (h1 : ∀ b, S b → b < w.heap.size ∧ v.ownBlock ≠ some b) (h3 : ∀ i, i < l.length → ObjIs S w (obj l i) (lvs i))
  (ho : ObjIs S2 w o lv) (h2 : ∀ b, S2 b → b < w.heap.size ∧ v.ownBlock ≠ some b)
  (hown : w1.ownsRow B 107 4 v' (l.length + 1) (flat (fun i => objCells (obj l i) (lvs i)) l.length ++ objCells o lv)) (hgrow : (w.alloc ob).grownBy w1 v.ownBlock)
  (hat : v'.ownBlock = v.ownBlock ∨ v'.ownBlock = some (w.heap.size + 1)) : GathS (fun b => S b ∨ S2 b) B w1 v' (l ++ [o]) := by
 have hu : Upd (fun b => v.ownBlock = some b) w w1 := Upd.grown ((Upd.refl _ _).alloc ob) hgrow (fun k hk _ => hk)
 refine ⟨fun i => if i < l.length then lvs i else lv, fun b hb => ?_, ?_, fun i hi => ?_⟩
 ·have hb' : b < w.heap.size ∧ v.ownBlock ≠ some b := by rcases hb with hb | hb; exact h1 b hb; exact h2 b hb
  refine ⟨Nat.lt_of_lt_of_le hb'.1 hu.size, ?_⟩
  rcases hat with h | h
  ·rw [h]; exact hb'.2
  ·rw [h]; intro e; cases e; omega
 ·rw [List.length_append, List.length_singleton, flat]
  have e1 : flat (fun i => objCells (obj (l ++ [o]) i) (if i < l.length then lvs i else lv)) l.length = flat (fun i => objCells (obj l i) (lvs i)) l.length :=
   flat_congr fun i hi => by rw [obj_snoc_lt hi, if_pos hi]
  rw [e1, obj_snoc_eq]
  simp only [Nat.lt_irrefl, if_false]
  exact hown
 ·rw [List.length_append, List.length_singleton] at hi
  by_cases hl : i < l.length
  ·simp only [obj_snoc_lt hl, if_pos hl]
   exact ((h3 i hl).upd hu (fun b hb h => (h1 b hb).2 h)).weaken fun _ h => .inl h
  ·have : i = l.length := by omega
   subst this
   simp only [obj_snoc_eq, if_neg hl]
   exact (ho.upd hu (fun b hb h => (h2 b hb).2 h)).weaken fun _ h => .inr h
theorem append_objS {B : Nat} {w : World} {v : Value} {l : List Obj} {p : Obj} {lv : Value} {S S2 : Nat → Prop} (ty : TypeId) (hG : GathS S B w v l) (hp : ObjIs S2 w p lv)
  (h2 : ∀ b, S2 b → b < w.heap.size ∧ v.ownBlock ≠ some b) (hl : (l.length + 1) * 56 ≤ 140737488351232) (hB : B ≤ w.heap.size) :
  ∃ a c x, (Builtin.append_ #[25, 25] ty #[v, .slice (some ⟨w.heap.size, 0, none⟩) 1 1]).run Tryz.prog (w.alloc (.cells #[.int .i64 p.id, .int .i64 p.kind, lv, .string p.text] 107)) = .ok (.slice a (l.length + 1) c) x ∧
   GathS (fun b => S b ∨ S2 b) B x (.slice a (l.length + 1) c) (l ++ [p]) ∧ Upd (fun b => v.ownBlock = some b) w x ∧ ((Value.slice a (l.length + 1) c).ownBlock = v.ownBlock ∨ ∃ k, (Value.slice a (l.length + 1) c).ownBlock = some k ∧ w.heap.size ≤ k) := by
 obtain ⟨lvs, h1, hown, h3⟩ := hG
 obtain ⟨i0, hi, hz0, hz1, hz2⟩ := info_parts Tryz.infoObj
 obtain ⟨g, c, x, hr, ho, hg, hor, hlt⟩ := run_append_lies (P := Tryz.prog) (w.alloc (.cells #[.int .i64 p.id, .int .i64 p.kind, lv, .string p.text] 107)) 25 ty B 107 i0 _ 4 56 Tryz.underlying25 hi hz0 hz1 hz2 rfl (by omega) v l.length _ (hown.alloc _) ⟨w.heap.size, 0, none⟩ 1 1 (objCells p lv) rfl
  (World.news_of_block (cs := #[.int .i64 p.id, .int .i64 p.kind, lv, .string p.text]) (t := 107) (fr := (0, 0)) (heap_alloc_new w _)) (one_cells hp) (by omega) (by unfold maxLen; omega) (by omega) (by simp; omega) _ rfl
 have hat : (Value.slice (some ⟨g, 0, none⟩) (l.length + 1) c).ownBlock = v.ownBlock ∨ (Value.slice (some ⟨g, 0, none⟩) (l.length + 1) c).ownBlock = some (w.heap.size + 1) := by
  rcases hor with h | h
  ·exact .inl h.symm
  ·right; rw [h]; simp [Value.ownBlock]
 refine ⟨_, c, x, hr, GathS.push h1 h3 hp h2 ho hg hat, Upd.grown ((Upd.refl _ _).alloc _) hg (fun k hk _ => hk), ?_⟩
 rcases hat with h | h
 ·exact .inl h
 ·exact .inr ⟨_, h, by omega⟩
def OutAt (B J : Nat) (w : World) (l : List Obj) : Prop :=
 ∃ v S, GathS S B w v l ∧ (∀ b, S b → b ≠ J) ∧ v.ownBlock ≠ some J ∧ w.heap[J]? = some (.cells #[v] 25 (0, 0))
theorem OutAt.below {B J : Nat} {w w' : World} {l : List Obj} (h : OutAt B J w l) (hb : Below w.heap.size w w') : OutAt B J w' l := by
 obtain ⟨v, S, h1, h2, h3, h4⟩ := h
 exact ⟨v, S, h1.below hb, h2, h3, (hb.block _ (lt_of_block h4)).trans h4⟩
theorem OutAt.lt {B J : Nat} {w : World} {l : List Obj} (h : OutAt B J w l) : J < w.heap.size := let ⟨_, _, _, _, _, h4⟩ := h; lt_of_block h4
theorem outAt_new (w : World) (B : Nat) : OutAt B w.heap.size (w.alloc (.cells #[.slice none 0 0] 25)) [] :=
 ⟨.slice none 0 0, fun _ => False, ⟨fun _ => .nilFunc, fun _ h => h.elim, World.ownsRow_nil _ _ _ _, fun i hi => by simp at hi⟩, fun _ h => h.elim, by simp [Value.ownBlock], heap_alloc_new w _⟩
theorem out_end {B J : Nat} {w x0 xo w9 : World} {v v' : Value} {m : List Obj} {S : Nat → Prop} (hB : B ≤ J) (hJw : J < w.heap.size) (hSJ : ∀ b, S b → b ≠ J) (hvJ : v.ownBlock ≠ some J) (hcJ : w.heap[J]? = some (.cells #[v] 25 (0, 0)))
  (hb0 : Below w.heap.size w x0) (hb : Below w.heap.size w xo) (hvB : ∀ g, v.ownBlock = some g → B ≤ g) (hG : GathS (fun b => S b ∨ (x0.heap.size ≤ b ∧ b < xo.heap.size)) B w9 v' m) (hu : Upd (fun b => v.ownBlock = some b) xo w9) (hat : v'.ownBlock = v.ownBlock ∨ ∃ k, v'.ownBlock = some k ∧ xo.heap.size ≤ k) :
  OutAt B J (w9.setCell ⟨J, 0, none⟩ v') m ∧ Below B w (w9.setCell ⟨J, 0, none⟩ v') := by
 have h0 := hb0.size
 have h1 := hb.size
 have hJ9 : w9.heap[J]? = some (.cells #[v] 25 (0, 0)) := hu.blk ((hb.block _ hJw).trans hcJ) hvJ
 have hu2 : Upd (fun b => b = J) w9 (w9.setCell ⟨J, 0, none⟩ v') := (Upd.refl (fun b => b = J) w9).setCell (p := ⟨J, 0, none⟩) (fun _ => rfl) _
 have hv' : v'.ownBlock ≠ some J := by
  rcases hat with h | ⟨k, h, hk⟩
  ·rw [h]; exact hvJ
  ·rw [h]; intro e; cases e; omega
 refine ⟨⟨v', _, hG.upd hu2 (fun b hb' e => ?_) (fun g hg e => hv' (by rw [hg, e])), fun b hb' => ?_, hv', block_setCell (j := 0) hJ9 v'⟩, ?_⟩
 ·rcases hb' with h | h
  ·exact hSJ b h e
  ·omega
 ·rcases hb' with h | h
  ·exact hSJ b h
  ·omega
 ·exact (hb.mono (by omega)).trans ((hu.below (by omega) hvB).trans (hu2.below (B := B) (by have := hu.size; omega) (fun b e => by omega)))
def missE (m : List Obj) (o : Obj) : Int := if isAt m o.id = true ∧ sameObj o (obj m (lo m o.id)) = false then 6 else 0
def missO (l m : List Obj) (o : Obj) : List Obj := if isAt m o.id = true then l else l ++ [o]
set_option maxRecDepth 100000 in
set_option maxHeartbeats 4000000 in
theorem raw1_any {B J T : Nat} {l m : List Obj} {w : World} (hJ : OutAt B J w l) (tv : Value) (hT : w.heap[T]? = some (.cells #[tv] 25 (0, 0))) (S1 : Nat → Prop) (hm : StoreV S1 w tv m) (hr : Rising m) (o : Obj) (lv : Value) (S2 : Nat → Prop) (ho : ObjIs S2 w o lv) (hl : l.length ≤ 900) (hB : B ≤ J) :
  Calls Tryz.prog 152 #[.agg #[.int .i64 o.id, .int .i64 o.kind, lv, .string o.text], .pointer (some ⟨T, 0, none⟩), .pointer (some ⟨J, 0, none⟩)] w
   fun e w' => e = .returned (.int .i64 (missE m o)) ∧ Below B w w' ∧ OutAt B J w' (missO l m o) := by
 have hJ' := hJ
 obtain ⟨v, S, hG, hSJ, hvJ, hcJ⟩ := hJ
 obtain ⟨va, vc, rfl⟩ := hG.gath.shape
 obtain ⟨⟨lp, lc⟩, rfl⟩ := ho.1.shape
 obtain ⟨ta, tc, rfl⟩ := hm.vshape
 have hJw := lt_of_block hcJ
 have hTw := lt_of_block hT
 obtain ⟨Q, hQ, hQ1, y0, y1, y2, y3⟩ := cls_box4 w (.int .i64 o.id) (.int .i64 o.kind) (.slice lp o.links.length lc) (.string o.text) 107
 have hQb := hQ.below
 have hQn := hQ.next
 have hQg := cls_grown hQ
 have cJ := fun x (hx : In Q x) => block_cell (w := x) (j := 0) ((hQb x hx).block _ hJw |>.trans hcJ) rfl
 have cT := fun x (hx : In Q x) => block_cell (w := x) (j := 0) ((hQb x hx).block _ hTw |>.trans hT) rfl
 have Hat := Lib.hid (fun x (hx : In Q x) => at_any m _ _ o.id x (hm.below (hQb _ hx)) hr)
 cases hat : isAt m o.id
 ·have HjL := Lib.hid (show missO l m o = l ++ [o] by unfold missO; rw [if_neg (by simp [hat])])
  have HjE := Lib.hid (show missE m o = 0 by unfold missE; simp [hat])
  rw [HjL.out, HjE.out]
  rw [hat] at Hat
  have Ho := Lib.hid ho
  have HG := Lib.hid hG
  have HSJ := Lib.hid hSJ
  have HcJ := Lib.hid hcJ
  clear hJ' hr ho hG hSJ hcJ hm hT
  generalize lo m o.id = k at *
  go_enter Tryz.func152, Tryz.ntmps152
  go_wp2_with fail
  refine (Hat.out _ hQ1).mono ?_
  rintro e w5 ⟨rfl, hb5⟩
  have hQ2 := hQn _ _ hQ1 hb5
  clear hb5
  go_wp2_with fail
  have hQd := hQ.drew _ hQ2
  refine any_start (by kernel_rfl) rfl ?_
  generalize w5.drew = x0 at *
  have HQn := Lib.hid hQn
  have HQa := Lib.hid hQ.alloc
  have hQ0 := hQd
  clear hQd
  have z0 := y0 _ hQ0
  have z1 := y1 _ hQ0
  have z2 := y2 _ hQ0
  have z3 := y3 _ hQ0
  have zJ := cJ _ hQ0
  have hown := own_any o _ S2 x0 (Ho.out.below (hQb _ hQ0))
  refine any_two 0 1 (by kernel_rfl) (op_do rfl (by rfl) (fun K hK => ?_)) (op_do rfl (by rfl) (fun K hK => ?_))
  ·go_wp2_with fail
   refine any_one 1 (by kernel_rfl) rfl (by rfl) (fun K hK => ?_)
   go_wp2_with fail
   refine any_one 2 (by kernel_rfl) rfl (by rfl) (fun K hK => ?_)
   go_wp2_with fail
   refine hown.mono ?_
   rintro e xo ⟨lo, rfl, hoo, hbo⟩
   obtain ⟨⟨lop, loc⟩, rfl⟩ := hoo.1.shape
   have hQo := HQn.out _ _ hQ0 hbo
   have zJo := cJ _ hQo
   have zJo2 := cJ _ (HQa.out _ (.cells #[.int .i64 o.id, .int .i64 o.kind, .slice lop o.links.length loc, .string o.text] 107) hQo)
   go_wp2_with fail
   refine any_one 3 (by kernel_rfl) rfl (by rfl) (fun K hK => ?_)
   go_wp2_with fail
   obtain ⟨va9, vc9, w9, hr9, hG9, hu9, hat9⟩ := append_objS 25 (HG.out.below (hQb _ hQo)) hoo.lt (fun b hb => ⟨hb.2, fun e => by have h1 := (HG.out.gath.block e).2; have h2 := (hQb _ hQ0).size; omega⟩) (by omega) (show B ≤ xo.heap.size by have := (hQb _ hQo).size; omega)
   have Hend := Lib.hid (out_end hB hJw HSJ.out hvJ HcJ.out (hQb _ hQ0) (hQb _ hQo) (fun g hg => (HG.out.gath.block hg).1) hG9 hu9 hat9)
   have hJ9 : w9.heap[J]? = some (.cells #[_] 25 (0, 0)) := hu9.blk (((hQb _ hQo).block _ hJw).trans HcJ.out) hvJ
   have cJ9 := block_cell (j := 0) hJ9 rfl
   have fJ9 := block_free (j := 0) hJ9
   clear hG9 hu9 hat9 hJ9
   refine any_one 4 (by kernel_rfl) rfl (by rfl) (fun K hK => ?_)
   refine wp_append_run (.tmp 17) (.tmp 20) 25 (by rfl) _ _ _ (by rfl) (by rfl) hr9 ?_
   refine hK _ _ ?_
   clear hr9
   refine any_one 5 (by kernel_rfl) rfl (by rfl) (fun K hK => ?_)
   go_wp2_with fail
   refine any_done (by kernel_rfl) ?_
   go_wp2_with fail
   go_ret
   exact ⟨rfl, Hend.out.2, Hend.out.1⟩
  ·go_wp2_with fail
   refine any_two 0 2 (by kernel_rfl) (op_do rfl (by rfl) (fun K hK => ?_)) (op_do rfl (by rfl) (fun K hK => ?_))
   ·go_wp2_with fail
    refine any_one 2 (by kernel_rfl) rfl (by rfl) (fun K hK => ?_)
    go_wp2_with fail
    refine hown.mono ?_
    rintro e xo ⟨lo, rfl, hoo, hbo⟩
    obtain ⟨⟨lop, loc⟩, rfl⟩ := hoo.1.shape
    have hQo := HQn.out _ _ hQ0 hbo
    have zJo := cJ _ hQo
    have zJo2 := cJ _ (HQa.out _ (.cells #[.int .i64 o.id, .int .i64 o.kind, .slice lop o.links.length loc, .string o.text] 107) hQo)
    go_wp2_with fail
    refine any_one 3 (by kernel_rfl) rfl (by rfl) (fun K hK => ?_)
    go_wp2_with fail
    obtain ⟨va9, vc9, w9, hr9, hG9, hu9, hat9⟩ := append_objS 25 (HG.out.below (hQb _ hQo)) hoo.lt (fun b hb => ⟨hb.2, fun e => by have h1 := (HG.out.gath.block e).2; have h2 := (hQb _ hQ0).size; omega⟩) (by omega) (show B ≤ xo.heap.size by have := (hQb _ hQo).size; omega)
    have Hend := Lib.hid (out_end hB hJw HSJ.out hvJ HcJ.out (hQb _ hQ0) (hQb _ hQo) (fun g hg => (HG.out.gath.block hg).1) hG9 hu9 hat9)
    have hJ9 : w9.heap[J]? = some (.cells #[_] 25 (0, 0)) := hu9.blk (((hQb _ hQo).block _ hJw).trans HcJ.out) hvJ
    have cJ9 := block_cell (j := 0) hJ9 rfl
    have fJ9 := block_free (j := 0) hJ9
    clear hG9 hu9 hat9 hJ9
    refine any_one 4 (by kernel_rfl) rfl (by rfl) (fun K hK => ?_)
    refine wp_append_run (.tmp 17) (.tmp 20) 25 (by rfl) _ _ _ (by rfl) (by rfl) hr9 ?_
    refine hK _ _ ?_
    clear hr9
    refine any_one 5 (by kernel_rfl) rfl (by rfl) (fun K hK => ?_)
    go_wp2_with fail
    refine any_done (by kernel_rfl) ?_
    go_wp2_with fail
    go_ret
    exact ⟨rfl, Hend.out.2, Hend.out.1⟩
   ·go_wp2_with fail
    refine hown.mono ?_
    rintro e xo ⟨lo, rfl, hoo, hbo⟩
    obtain ⟨⟨lop, loc⟩, rfl⟩ := hoo.1.shape
    have hQo := HQn.out _ _ hQ0 hbo
    have zJo := cJ _ hQo
    have zJo2 := cJ _ (HQa.out _ (.cells #[.int .i64 o.id, .int .i64 o.kind, .slice lop o.links.length loc, .string o.text] 107) hQo)
    go_wp2_with fail
    refine any_two 0 3 (by kernel_rfl) (op_do rfl (by rfl) (fun K hK => ?_)) (op_do rfl (by rfl) (fun K hK => ?_))
    ·go_wp2_with fail
     refine any_one 3 (by kernel_rfl) rfl (by rfl) (fun K hK => ?_)
     go_wp2_with fail
     obtain ⟨va9, vc9, w9, hr9, hG9, hu9, hat9⟩ := append_objS 25 (HG.out.below (hQb _ hQo)) hoo.lt (fun b hb => ⟨hb.2, fun e => by have h1 := (HG.out.gath.block e).2; have h2 := (hQb _ hQ0).size; omega⟩) (by omega) (show B ≤ xo.heap.size by have := (hQb _ hQo).size; omega)
     have Hend := Lib.hid (out_end hB hJw HSJ.out hvJ HcJ.out (hQb _ hQ0) (hQb _ hQo) (fun g hg => (HG.out.gath.block hg).1) hG9 hu9 hat9)
     have hJ9 : w9.heap[J]? = some (.cells #[_] 25 (0, 0)) := hu9.blk (((hQb _ hQo).block _ hJw).trans HcJ.out) hvJ
     have cJ9 := block_cell (j := 0) hJ9 rfl
     have fJ9 := block_free (j := 0) hJ9
     clear hG9 hu9 hat9 hJ9
     refine any_one 4 (by kernel_rfl) rfl (by rfl) (fun K hK => ?_)
     refine wp_append_run (.tmp 17) (.tmp 20) 25 (by rfl) _ _ _ (by rfl) (by rfl) hr9 ?_
     refine hK _ _ ?_
     clear hr9
     refine any_one 5 (by kernel_rfl) rfl (by rfl) (fun K hK => ?_)
     go_wp2_with fail
     refine any_done (by kernel_rfl) ?_
     go_wp2_with fail
     go_ret
     exact ⟨rfl, Hend.out.2, Hend.out.1⟩
    ·go_wp2_with fail
     refine any_one 0 (by kernel_rfl) rfl (by rfl) (fun K hK => ?_)
     go_wp2_with fail
     obtain ⟨va9, vc9, w9, hr9, hG9, hu9, hat9⟩ := append_objS 25 (HG.out.below (hQb _ hQo)) hoo.lt (fun b hb => ⟨hb.2, fun e => by have h1 := (HG.out.gath.block e).2; have h2 := (hQb _ hQ0).size; omega⟩) (by omega) (show B ≤ xo.heap.size by have := (hQb _ hQo).size; omega)
     have Hend := Lib.hid (out_end hB hJw HSJ.out hvJ HcJ.out (hQb _ hQ0) (hQb _ hQo) (fun g hg => (HG.out.gath.block hg).1) hG9 hu9 hat9)
     have hJ9 : w9.heap[J]? = some (.cells #[_] 25 (0, 0)) := hu9.blk (((hQb _ hQo).block _ hJw).trans HcJ.out) hvJ
     have cJ9 := block_cell (j := 0) hJ9 rfl
     have fJ9 := block_free (j := 0) hJ9
     clear hG9 hu9 hat9 hJ9
     refine any_one 4 (by kernel_rfl) rfl (by rfl) (fun K hK => ?_)
     refine wp_append_run (.tmp 17) (.tmp 20) 25 (by rfl) _ _ _ (by rfl) (by rfl) hr9 ?_
     refine hK _ _ ?_
     clear hr9
     refine any_one 5 (by kernel_rfl) rfl (by rfl) (fun K hK => ?_)
     go_wp2_with fail
     refine any_done (by kernel_rfl) ?_
     go_wp2_with fail
     go_ret
     exact ⟨rfl, Hend.out.2, Hend.out.1⟩
 ·have HjL := Lib.hid (show missO l m o = l by unfold missO; rw [if_pos hat])
  have hk : lo m o.id < m.length := by unfold isAt at hat; simp at hat; exact hat.1
  have HjE := Lib.hid (show missE m o = if sameObj o (obj m (lo m o.id)) = false then 6 else 0 by unfold missE; simp [hat])
  rw [HjL.out]
  obtain ⟨a5, n5, c5, la5, ln5, lc5, HN5, e5, _, _, _, h45, h55⟩ := hm.open
  cases e5
  obtain ⟨b, off, rfl, _, k0, k1, k2, k3⟩ := h45 (by omega)
  have Hs := Lib.hid (fun x (hx : In Q x) => same_any o (obj m (lo m o.id)) _ _ _ _ x (ho.below (hQb _ hx)) ((h55 _ hk).below (hQb _ hx)))
  rw [hat] at Hat
  generalize lo m o.id = k at *
  have x0 := fun x (hx : In Q x) => k0 k x hk (hQb x hx)
  have x1 := fun x (hx : In Q x) => k1 k x hk (hQb x hx)
  have x2 := fun x (hx : In Q x) => k2 k x hk (hQb x hx)
  have x3 := fun x (hx : In Q x) => k3 k x hk (hQb x hx)
  have HJ := Lib.hid (fun x (hx : In Q x) => And.intro ((hQb x hx).mono (show B ≤ w.heap.size by omega)) (hJ'.below (hQb x hx)))
  have hi1 : (0 : Int) ≤ (k : Int) := by omega
  have hi2 : (k : Int) < (m.length : Int) := by omega
  clear k0 k1 k2 k3 h45 h55 hG hSJ hvJ hcJ hJ' hr HN5 ho hT hm
  rw [HjE.out]
  have Hend := Lib.hid (fun x (hx : In Q x) => HJ.out x hx)
  cases hs : sameObj o (obj m k)
  case' false => rw [hs] at Hs
  case' true => rw [hs] at Hs
  all_goals
   go_enter Tryz.func152, Tryz.ntmps152
   go_wp2_with fail
   refine (Hat.out _ hQ1).mono ?_
   rintro e w5 ⟨rfl, hb5⟩
   have hQ2 := hQn _ _ hQ1 hb5
   clear hb5
   go_wp2_with fail
   refine wp_region_quiet_below (by kernel_rfl) (by kernel_rfl) ?_
   repeat (quiet_step (exact Calls.regrown_of (Hs.out _ (hQg _ _ _ hQ2))))
   refine wpQuiet_nil ?_
   intro _ hw'
   obtain ⟨⟨dq, osq⟩, hw''⟩ := hw'
   subst hw''
   have hQ3 := hQg _ dq osq hQ2
   generalize Go.Sort.grow (redrawn _ dq) osq = w6 at *
   go_wp2_with fail
   go_ret
   exact ⟨rfl, (Hend.out _ hQ3).1, (Hend.out _ hQ3).2⟩
end Go.Proofs.YtgkbalhkjolnmaaGreatDoor
namespace Go.Proofs.YtgkbalhkjolnmaaGreatDoor
open Go.RowKit
set_option linter.unusedVariables false
set_option linter.unusedSimpArgs false
structure DoesC (g : Nat) (c1 c2 : Value) (l : List Obj) (w0 : World) (I : Nat → World → Prop) (err : Nat → Int) : Prop where
 enter : ∀ args w, (callFunc g args).run Tryz.prog w = .ok (.enter g args) w
 below : ∀ k x, I k x → Below w0.heap.size w0 x
 next : ∀ k x y, I k x → Below x.heap.size x y → I k y
 step : ∀ k x (lv : Value) (S : Nat → Prop), k < l.length → scan err k = 0 → I k x → ObjIs S x (obj l k) lv →
  Calls Tryz.prog g #[.agg #[.int .i64 (obj l k).id, .int .i64 (obj l k).kind, lv, .string (obj l k).text], c1, c2] x fun e w' => e = .returned (.int .i64 (err k)) ∧ Below w0.heap.size w0 w' ∧ (err k = 0 → I (k + 1) w')
set_option maxRecDepth 100000 in
set_option maxHeartbeats 2000000 in
theorem eachC_any {g : Nat} {c1 c2 : Value} {l : List Obj} {w0 w : World} {I : Nat → World → Prop} {err : Nat → Int} (hd : DoesC g c1 c2 l w0 I err) (lv : Value) (S : Nat → Prop) (h : StoreV S w0 lv l) (h0 : I 0 w) :
  Calls Tryz.prog 102 #[lv, .func (.func g) #[] #[c1, c2]] w fun e w' => e = .returned (.int .i64 (scan err l.length)) ∧ Below w0.heap.size w0 w' ∧ (scan err l.length = 0 → I l.length w') := by
 have h' := h
 obtain ⟨a, n, cap, la, ln, lc, HN, rfl, h1, h2, h3, h4, h5⟩ := h.open
 have eg := hd.enter
 have Hd := Lib.hid hd
 have Hn := Lib.hid HN.out.1
 rw [← Hn.out]
 clear h hd
 go_enter Tryz.func102, Tryz.ntmps102
 go_wp2_with fail
 go_loopw [10] (fun i wr => ∃ k : Nat, k ≤ n ∧ i = .int .i64 k ∧ Hid (scan err k = 0) ∧ Hid (I k wr)) (fun i _ => n - (intOf i).toNat)
 case atStart => exact ⟨0, by omega, rfl, rfl, h0⟩
 case round =>
  obtain ⟨k, hk, rfl, Hs, HI⟩ := hrel
  clear h0
  have hRw := Hd.out.below _ _ HI.out
  by_cases hlt : k < n
  ·obtain ⟨b, off, rfl, hb, k0, k1, k2, k3⟩ := h4 (by omega)
   have x0 := k0 k wr hlt hRw
   have x1 := k1 k wr hlt hRw
   have x2 := k2 k wr hlt hRw
   have x3 := k3 k wr hlt hRw
   obtain ⟨Q, hQ, hQ1, y0, y1, y2, y3⟩ := cls_box4 wr (.int .i64 (obj l k).id) (.int .i64 (obj l k).kind) (.slice (la k) (ln k) (lc k)) (.string (obj l k).text) 107
   have Hc := Lib.hid (Hd.out.step k _ _ S (by rw [← Hn.out]; exact hlt) Hs.out (Hd.out.next _ _ _ HI.out (hQ.below _ hQ1)) ((h5 k hlt).below (below_next hRw (hQ.below _ hQ1))))
   have z0 := y0 _ hQ1
   have z1 := y1 _ hQ1
   have z2 := y2 _ hQ1
   have z3 := y3 _ hQ1
   have hi1 : (0 : Int) ≤ (k : Int) := by omega
   have hi2 : (k : Int) < (n : Int) := by omega
   clear k0 k1 k2 k3 h4 h5 y0 y1 y2 y3
   by_cases he : err k = 0
   ·have hq : (err k != 0) = false := by simpa using he
    have Hs2 := Lib.hid (show scan err (k + 1) = 0 from scan_next Hs.out he)
    have He := Lib.hid he
    clear he
    go_wp2_with fail
    refine Hc.out.mono ?_
    rintro e w' ⟨rfl, hb2, hI2⟩
    have HI2 := Lib.hid (hI2 He.out)
    clear hI2 hb2
    go_wp2_with fail
    go_roundw
    case rel => exact ⟨k + 1, by omega, by go_num, Hs2, HI2⟩
    case measure => simp [intOf]; omega
   ·have hq : (err k != 0) = true := by simpa using he
    have Hs2 := Lib.hid (show scan err n = err k from scan_hit Hs.out he hlt)
    have He := Lib.hid he
    clear he
    go_wp2_with fail
    refine Hc.out.mono ?_
    rintro e w' ⟨rfl, hb2, hI2⟩
    clear hI2
    go_wp2_with fail
    go_ret
    exact ⟨ret_int Hs2.out.symm, hb2, fun h => absurd (Hs2.out.symm.trans h) He.out⟩
  ·obtain rfl : k = n := by omega
   go_wp2_with fail
   go_ret
   exact ⟨ret_int Hs.out.symm, hRw, fun _ => HI.out⟩
theorem missTo_next {l m : List Obj} {k : Nat} (hk : k < l.length) : missTo l m (k + 1) = missO (missTo l m k) m (obj l k) := by
 unfold missO
 by_cases h : isAt m (obj l k).id = true
 ·rw [if_pos h, missTo_there hk h]
 ·rw [if_neg h, missTo_not hk (by simpa using h)]
set_option maxRecDepth 100000 in
theorem miss_does {l m : List Obj} (hr : Rising m) (hl : l.length ≤ 800) {w0 : World} {J T : Nat} (hJ : w0.heap.size ≤ J) {tv : Value} (hT : w0.heap[T]? = some (.cells #[tv] 25 (0, 0))) {S1 : Nat → Prop} (hm : StoreV S1 w0 tv m) :
  DoesC 152 (.pointer (some ⟨T, 0, none⟩)) (.pointer (some ⟨J, 0, none⟩)) l w0 (fun k x => Below w0.heap.size w0 x ∧ OutAt w0.heap.size J x (missTo l m k)) (missErr l m) where
 enter := fun _ _ => rfl
 below := fun k x h => h.1
 next := fun k x y h hb => ⟨below_next h.1 hb, h.2.below hb⟩
 step := fun k x lv S hk hs hI ho => by
  have h1 := raw1_any hI.2 tv ((hI.1.block _ (lt_of_block hT)).trans hT) S1 (hm.below hI.1) hr (obj l k) lv S ho (by have := missTo_length l m k; omega) hJ
  refine h1.mono ?_
  rintro e w' ⟨rfl, hb, hO⟩
  have hb2 : Below w0.heap.size w0 w' := hI.1.trans hb
  exact ⟨rfl, hb2, fun _ => ⟨hb2, by rw [missTo_next hk]; exact hO⟩⟩
set_option maxRecDepth 100000 in
set_option maxHeartbeats 2000000 in
theorem diffRaw_any (l m : List Obj) (lv mv : Value) (S S' : Nat → Prop) (w : World) (h : StoreV S w lv l) (hm : StoreV S' w mv m) (hr : Rising m) (hl : l.length ≤ 800) :
  Calls Tryz.prog 119 #[lv, mv] w fun e w' => RetStoreE w w' e (rawL l m) (rawE l m) := by
 have hmf : ∀ (fn : Fn) (first cap : Array Value) (w : World), (Instr.makeFunc fn first cap).run Tryz.prog w = .ok (.func fn first cap) w := fun _ _ _ _ => rfl
 obtain ⟨la, lc, rfl⟩ := h.vshape
 obtain ⟨ma, mc, rfl⟩ := hm.vshape
 obtain ⟨w1, hw1⟩ : ∃ w1 : World, w1 = w.alloc (.cells #[.slice ma m.length mc] 25) := ⟨_, rfl⟩
 have hb1 : Below w.heap.size w w1 := by rw [hw1]; exact (Below.refl _ _).alloc (Nat.le_refl _) _
 have hT : w1.heap[w.heap.size]? = some (.cells #[.slice ma m.length mc] 25 (0, 0)) := by rw [hw1]; exact heap_alloc_new w _
 have hz : w1.heap.size = w.heap.size + 1 := by rw [hw1]; simp
 have HE := Lib.hid (eachC_any (miss_does hr hl (J := w.heap.size + 1) (Nat.le_of_eq hz) hT (hm.below hb1)) (.slice la l.length lc) S (h.below hb1) (w := w1.alloc (.cells #[.slice none 0 0] 25)) ⟨(Below.refl _ _).alloc (Nat.le_refl _) _, by rw [missTo_zero, ← hz]; exact outAt_new w1 _⟩)
 have HwE := Lib.hid (show rawE l m = scan (missErr l m) l.length from rfl)
 have HwL := Lib.hid (show rawL l m = if rawE l m = 0 then missL l m else [] from rfl)
 have Hend := Lib.hid (missTo_end l m)
 have hml := missL_length l m
 have HJl := Lib.hid (show (missL l m).length * 56 ≤ 140737488351232 by omega)
 have Hb1 := Lib.hid hb1
 clear h hm hr hml hT hb1
 rw [HwL.out]
 generalize rawE l m = se at *
 rw [← HwE.out] at HE
 clear HwE HwL
 by_cases hs : se = 0
 ·subst hs
  rw [if_pos rfl]
  have Hw1 := Lib.hid hw1
  go_enter Tryz.func119, Tryz.ntmps119
  go_wp2_with fail
  rw [← Hw1.out]
  refine HE.out.mono ?_
  rintro e w3 ⟨rfl, hb3, hI3⟩
  obtain ⟨_, v3, S3, hG3, _, _, hc3⟩ := hI3 (by simp)
  rw [Hend.out] at hG3
  obtain ⟨a3, c3, rfl⟩ := hG3.gath.shape
  have hst := Lib.hid (hG3.gath.store HJl.out)
  have hb4 : Below w.heap.size w w3 := Hb1.out.trans (hb3.mono (by omega))
  have j0 := block_cell (j := 0) hc3 rfl
  have Hb4 := Lib.hid hb4
  clear hb4 hb3 hI3 hG3 hc3
  go_wp2_with fail
  go_ret2
  exact ⟨_, rfl, hst.out, Hb4.out⟩
 ·have hq : (se != 0) = true := by simpa using hs
  rw [if_neg hs]
  have Hw1 := Lib.hid hw1
  clear hs
  go_enter Tryz.func119, Tryz.ntmps119
  go_wp2_with fail
  rw [← Hw1.out]
  refine HE.out.mono ?_
  rintro e w3 ⟨rfl, hb3, hI3⟩
  have hb4 : Below w.heap.size w w3 := Hb1.out.trans (hb3.mono (by omega))
  have Hb4 := Lib.hid hb4
  clear hb4 hb3 hI3
  go_wp2_with fail
  go_ret2
  exact ⟨_, rfl, StoreV.nil _ _ _ _ (by omega), Hb4.out⟩
end Go.Proofs.YtgkbalhkjolnmaaGreatDoor
