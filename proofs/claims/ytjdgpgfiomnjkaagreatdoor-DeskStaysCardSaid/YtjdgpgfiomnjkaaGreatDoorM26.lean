
/- ClusI: walks of forestaylaw.first and clusterBegun. -/
import Derived.Test.YtjdgpgfiomnjkaaGreatDoorM20
import Derived.Test.YtjdgpgfiomnjkaaGreatDoorM12
import Derived.Test.YtjdgpgfiomnjkaaGreatDoorM25
import Derived.Test.YtjdgpgfiomnjkaaGreatDoorM22
import Derived.Test.YtjdgpgfiomnjkaaGreatDoorM10
import Derived.Test.YtjdgpgfiomnjkaaGreatDoorM18
namespace Go.Proofs.YtjdgpgfiomnjkaaGreatDoor
open Go.RowKit
set_option linter.unusedVariables false
set_option linter.unusedSimpArgs false
def mainB : ByteArray := ⟨#[109, 97, 105, 110]⟩
def firstP : Psh := ⟨shelfL.take 3, [⟨mainB, 0, 3⟩], false⟩
def oneR : Rep := ⟨shelfL.take 3, [⟨mainB, 3⟩], 1, 0, psh0⟩
def begL : List Rep := [oneR, oneR, rep0]
theorem cb1 : pushCE [rep0, rep0, rep0] firstP 3 0 = 0 := by decide +kernel
theorem cb2 : pushCL [rep0, rep0, rep0] firstP 3 0 = begL := (sameClu_iff _ _).1 (by decide +kernel)
theorem cb3 : pushCD [rep0, rep0, rep0] firstP 3 0 = true := by decide +kernel
theorem cb4 : pushCE begL firstP 7 0 = 0 := by decide +kernel
theorem cb5 : pushCL begL firstP 7 0 = begL := (sameClu_iff _ _).1 (by decide +kernel)
theorem cb6 : pushCD begL firstP 7 0 = false := by decide +kernel
theorem cb7 : pushCE [rep0, rep0, rep0] firstP 7 3 = 0 := by decide +kernel
theorem cb8 : pushCD [rep0, rep0, rep0] firstP 7 3 = false := by decide +kernel
theorem cb9 : cluE begL = 0 := by decide +kernel
theorem cb10 : newN begL = 0 := by decide +kernel
set_option maxRecDepth 100000 in
set_option maxHeartbeats 4000000 in
theorem first_any (w : World) : Calls Tryz.prog 111 #[] w fun e w' => RetPsh w w' e firstP := by
 have hb0 := (Below.refl w.heap.size w).alloc (Nat.le_refl _) (.cells #[.slice none 0 0, .slice none 0 0, .bool false] 26)
 have hk0 := heap_alloc_new w (.cells #[.slice none 0 0, .slice none 0 0, .bool false] 26)
 have hs0 : (w.alloc (.cells #[.slice none 0 0, .slice none 0 0, .bool false] 26)).heap.size = w.heap.size + 1 := by simp
 have HB0 := Lib.hid hb0
 have HK0 := Lib.hid hk0
 have HS0 := Lib.hid hs0
 clear hb0 hk0 hs0
 go_enter Tryz.func111, Tryz.ntmps111
 go_wp2_with fail
 refine (shelf_any _).mono ?_
 rintro e w1 ⟨v1, rfl, hv1, hb1⟩
 obtain ⟨a1, c1, hcap1, rfl⟩ : ∃ a c, 5 ≤ c ∧ v1 = .slice a shelfL.length c := let ⟨_, ⟨a, cap, hv, h1, _⟩, _⟩ := hv1; ⟨a, cap, h1, hv⟩
 have hT := hv1.lt.take (i := 3) (by decide)
 have hc3 : (3 : Int) ≤ (c1 : Int) := by omega
 rw [HS0.out] at hb1
 have hz1 := hb1.size
 rw [HS0.out] at hz1
 have hk1 := (hb1.block _ (by omega)).trans HK0.out
 have hB1 := HB0.out.trans (hb1.mono (by omega))
 have hU := mvs_new w1 firstP.updates 107 w1.heap.size rfl (by decide) (fun u hu => by
  simp only [firstP, List.mem_cons, List.not_mem_nil, or_false] at hu
  subst hu
  exact ⟨small64 _ (by decide), small64 _ (by decide), by decide⟩)
 have hbU := (Below.refl w1.heap.size w1).alloc (Nat.le_refl _) (.cells #[.string ⟨#[109, 97, 105, 110]⟩, .int .i64 0, .int .i64 3] 107)
 have hk2 := (hbU.block _ (by omega)).trans hk1
 have hT2 := hT.below hbU
 have hB2 := hB1.trans (hbU.mono (by omega))
 have HT := Lib.hid hT2
 have HU := Lib.hid (show MvsV (fun b => b = w1.heap.size) (w1.alloc (.cells #[.string ⟨#[109, 97, 105, 110]⟩, .int .i64 0, .int .i64 3] 107)) (.slice (some ⟨w1.heap.size, 0, none⟩) 1 1) firstP.updates from hU)
 have HB2 := Lib.hid hB2
 have HK2 := Lib.hid hk2
 have hz2 : (w1.alloc (.cells #[.string ⟨#[109, 97, 105, 110]⟩, .int .i64 0, .int .i64 3] 107)).heap.size = w1.heap.size + 1 := by simp
 have g0 := block_cell (j := 0) hk2 rfl
 have g1 := block_cell (j := 1) hk2 rfl
 have g2 := block_cell (j := 2) hk2 rfl
 have f0 := block_free (j := 0) hk2
 have f1 := block_free (j := 1) hk2
 have f2 := block_free (j := 2) hk2
 clear hv1 hT hk1 hB1 hU hbU hk2 hT2 hB2 hb1 HB0 HK0
 go_wp2_with fail
 change bodyPost _ _ _ _ _ (set3 w.heap.size (.slice a1 3 c1) (.slice (some ⟨w1.heap.size, 0, none⟩) 1 1) (.bool false) (w1.alloc (.cells #[.string ⟨#[109, 97, 105, 110]⟩, .int .i64 0, .int .i64 3] 107)))
 generalize w1.alloc (.cells #[.string ⟨#[109, 97, 105, 110]⟩, .int .i64 0, .int .i64 3] 107) = w2 at *
 have hb3 := set3_is (v0 := .slice a1 3 c1) (v1 := .slice (some ⟨w1.heap.size, 0, none⟩) 1 1) (v2 := .bool false) HK2.out
 have hu3 := set3_upd w.heap.size (.slice a1 3 c1) (.slice (some ⟨w1.heap.size, 0, none⟩) 1 1) (.bool false) w2
 generalize set3 w.heap.size (.slice a1 3 c1) (.slice (some ⟨w1.heap.size, 0, none⟩) 1 1) (.bool false) w2 = w3 at *
 have k0 := block_cell (j := 0) hb3 rfl
 have k1 := block_cell (j := 1) hb3 rfl
 have k2 := block_cell (j := 2) hb3 rfl
 refine bodyPost_ret (v := pshV firstP (.slice a1 3 c1) (.slice (some ⟨w1.heap.size, 0, none⟩) 1 1)) (by simp [results, Tryz.results111, go_sem]; simp [k0, k1, k2]; rfl) rfl ⟨_, _, rfl, ?_, ?_, ?_⟩
 ·exact (HT.out.upd' hu3 (fun b hb e => by have e2 : b = w.heap.size := e; have h1 := hb.1; have h2 := HS0.out; omega)).weaken fun b hb => by have h1 := hb.1; have h2 := HS0.out; omega
 ·exact (HU.out.upd hu3 (fun b hb e => by have e2 : b = w.heap.size := e; omega)).weaken fun b hb => by omega
 ·exact HB2.out.trans (hu3.below (B := w.heap.size) HB2.out.size (fun b hb => by have e2 : b = w.heap.size := hb; omega))
set_option maxRecDepth 100000 in
set_option maxHeartbeats 16000000 in
theorem clusterBegun_any (w : World) (ht : Tab w) : Calls Tryz.prog 46 #[] w fun e w' => e = .returned (.bool true) ∧ Below w.heap.size w w' := by
 have HT := Lib.hid (fun x (hx : Below w.heap.size w x) => ht.below hx)
 clear ht
 go_enter Tryz.func46, Tryz.ntmps46
 go_wp2_with fail
 refine (cluNew_any _).mono ?_
 rintro e w1 ⟨v1, rfl, hv1, hb1⟩
 obtain ⟨a1, c1, rfl⟩ := hv1.vshape
 have HB1 := Lib.hid hb1
 have Hv1 := Lib.hid hv1
 clear hv1 hb1
 go_wp2_with fail
 refine (first_any _).mono ?_
 rintro e w2 ⟨ov2, uv2, rfl, ho2, hu2, hb2⟩
 obtain ⟨oa2, oc2, rfl⟩ := ho2.vshape
 obtain ⟨⟨ua2, uc2⟩, rfl⟩ := hu2.shape
 have HB2 := Lib.hid (below_next HB1.out hb2)
 have HP := Lib.hid (cluPush_any _ firstP 3 0 _ _ _ _ _ w2 (Hv1.out.below hb2) ⟨ho2.weaken (S' := fun _ => True) (fun _ _ => trivial), hu2.weaken (fun _ _ => trivial)⟩ (HT.out _ HB2.out))
 rw [cb1, cb2, cb3] at HP
 simp only [pshV] at HP ⊢
 clear ho2 hu2 hb2 Hv1
 go_wp2_with fail
 refine HP.out.mono ?_
 rintro e w3 ⟨v3, rfl, hv3, hb3⟩
 obtain ⟨F3, hO3, _⟩ := hv3
 have hv3 := hO3.any (by decide)
 clear hO3
 obtain ⟨a3, n3, cap3, fr3, HN3, rfl, _, _, _, h43, h53⟩ := hv3.open
 obtain rfl : n3 = 3 := HN3.out
 obtain ⟨b3, off3, rfl, _, k0, k1, k2, k3, k4, k5, k6⟩ := h43 (by omega)
 have Hg1 := Lib.hid (fun x (hx : Below w3.heap.size w3 x) => show x.cell? ⟨b3, off3 + 7 + 2, none⟩ = some (.int .i64 1) from k2 1 x (by decide) hx)
 have Hg2 := Lib.hid (fun x (hx : Below w3.heap.size w3 x) => show x.cell? ⟨b3, off3 + 14 + 2, none⟩ = some (.int .i64 0) from k2 2 x (by decide) hx)
 have HB3 := Lib.hid (below_next HB2.out hb3)
 have Hv3 := Lib.hid hv3
 clear hb3 hv3 h43 h53 HN3 HP k0 k1 k2 k3 k4 k5 k6
 obtain ⟨T, hT, hT1, HTb0⟩ := cls_box w3 #[.slice (some ⟨b3, off3, none⟩) 3 cap3] 66
 have hTb := hT.below
 have hTn := hT.next
 have c0 := fun x (hx : In T x) => HTb0 0 _ rfl x hx
 have HAx := Lib.hid (show ∀ x, In T x → Below w3.heap.size w3 x from fun x hx => hTb _ hx)
 have HBx := Lib.hid (fun x (hx : In T x) => below_next HB3.out (HAx.out x hx))
 have HPx := Lib.hid (fun x ov uv (hx : In T x) (ho : StoreV (fun _ => True) x ov firstP.objects) (hu : MvsV (fun _ => True) x uv firstP.updates) => (show Calls Tryz.prog 110 #[.agg #[.slice (some ⟨b3, off3, none⟩) 3 cap3], pshV firstP ov uv, .int .i64 7, .int .i64 0] x fun e w' => ∃ v', e = .returned (.tuple #[.agg #[v'], .bool false, .int .i64 0]) ∧ OwnF x.heap.size w' v' begL ∧ Below x.heap.size x w' from by
  have hC := cluPush_any begL firstP 7 0 _ ov uv _ _ x (Hv3.out.below (HAx.out _ hx)) ⟨ho, hu⟩ (HT.out _ (HBx.out _ hx))
  rw [cb4, cb5, cb6] at hC
  exact hC))
 have cc := c0 _ hT1
 go_upto_region 2 with fail
 go_cut [4, 5, 6] (fun s4 s5 s6 wx => ∃ D4, s4 = .pointer (some ⟨D4, 0, none⟩) ∧ s5 = .bool false ∧ s6 = .int .i64 0 ∧ ∃ y, y = wx ∧ Hid (In T y ∧ ∃ a4 c4, y.heap[D4]? = some (.cells #[.slice a4 3 c4] 66 (0, 0)) ∧ RepsV (fun _ => True) y (.slice a4 3 c4) begL))
 case first =>
  obtain ⟨Q, hQ, hQ1, hQu⟩ := cls_new (w3.alloc (.cells #[.slice (some ⟨b3, off3, none⟩) 3 cap3] 66))
  have hQb := hQ.below
  have hQn := hQ.next
  have HQu := Lib.hid hQu
  clear hQu
  have HQT := Lib.hid (fun x (hx : In Q x) => hTn _ _ hT1 (hQb _ hx))
  have d0 := fun x (hx : In Q x) => c0 _ (HQT.out x hx)
  clear cc
  refine wp_region_held (S := In Q) (by kernel_rfl) ?_
  change wpAnyH _ _ _ _ _ _ _ _ (World.drew _)
  have hC0 := hQ.drew _ hQ1
  generalize hx0 : (w3.alloc (.cells #[.slice (some ⟨b3, off3, none⟩) 3 cap3] 66)).drew = x0 at hC0 ⊢
  clear hx0
  refine wpAnyH_take (i := 0) (v := .agg #[.slice (some ⟨b3, off3, none⟩) 3 cap3]) rfl (by kernel_rfl) (by kernel_rfl) (by kernel_rfl) (fun _ _ _ h => h) (Or.inl ⟨by rfl, fun w hSw => ?_⟩) hC0 ?_
  ·have yy := d0 _ hSw; go_simp
  simp only [Act.put, List.getElem_toArray, List.getElem_cons_zero, List.getElem_cons_succ, List.setIfInBounds_toArray, List.set_cons_zero, List.set_cons_succ]
  refine wpAnyH_all (rs := [1, 7]) (by kernel_rfl) (by simp) (fun j hj => ?_)
  rcases List.mem_cons.1 hj with rfl | hj
  ·skip
   refine Or.inl ?_
   go_wp2_with fail
   refine (first_any _).mono ?_
   rintro e x10 ⟨ov4, uv4, rfl, ho4, hu4, hb0⟩
   obtain ⟨oa4, oc4, rfl⟩ := ho4.vshape
   obtain ⟨⟨ua4, uc4⟩, rfl⟩ := hu4.shape
   have hC1 := hQn _ _ hC0 hb0
   have Hos := Lib.hid (ho4.weaken (S' := fun _ => True) fun _ _ => trivial)
   have Hom := Lib.hid (hu4.weaken (S' := fun _ => True) fun _ _ => trivial)
   clear ho4 hu4 hb0
   generalize x10 = x1 at *
   simp only [pshV]
   go_simp
   refine wpAnyH_all (rs := [2, 7]) (by kernel_rfl) (by simp) (fun j hj => ?_)
   rcases List.mem_cons.1 hj with rfl | hj
   ·skip
    refine Or.inl ?_
    have HP4 := Lib.hid (HPx.out _ _ _ (HQT.out _ hC1) Hos.out Hom.out)
    simp only [pshV] at HP4
    clear Hos Hom
    go_wp2_with fail
    refine HP4.out.mono ?_
    rintro e x11 ⟨v4, rfl, hv4, hb0⟩
    have hC2 := hQn _ _ hC1 hb0
    obtain ⟨F4, hO4, hF4⟩ := hv4
    obtain ⟨a4, c4, hs4⟩ := hO4.shape
    replace hs4 : v4 = .slice a4 3 c4 := hs4
    subst hs4
    have Hv4 := Lib.hid (show RepsV (fun b => x1.heap.size ≤ b) x11 (.slice a4 3 c4) begL from hO4.reps (by decide) hF4 (fun b hb => (hO4.block hb).1))
    clear hO4 hF4 hb0 HP4
    generalize x11 = x2 at *
    go_simp
    refine wpAnyH_take (i := 3) (v := .tuple #[.agg #[.slice a4 3 c4], .bool false, .int .i64 0]) rfl (by kernel_rfl) (by kernel_rfl) (by kernel_rfl) (fun _ _ _ h => h) (Or.inl ⟨by rfl, fun w hSw => ?_⟩) hC2 ?_
    ·go_simp
    simp only [Act.put, List.getElem_toArray, List.getElem_cons_zero, List.getElem_cons_succ, List.setIfInBounds_toArray, List.set_cons_zero, List.set_cons_succ]
    refine wpAnyH_take (i := 4) (v := .agg #[.slice a4 3 c4]) rfl (by kernel_rfl) (by kernel_rfl) (by kernel_rfl) (fun _ _ _ h => h) (Or.inl ⟨by rfl, fun w hSw => ?_⟩) hC2 ?_
    ·go_simp
    simp only [Act.put, List.getElem_toArray, List.getElem_cons_zero, List.getElem_cons_succ, List.setIfInBounds_toArray, List.set_cons_zero, List.set_cons_succ]
    refine wpAnyH_take (i := 5) (v := .bool false) rfl (by kernel_rfl) (by kernel_rfl) (by kernel_rfl) (fun _ _ _ h => h) (Or.inl ⟨by rfl, fun w hSw => ?_⟩) hC2 ?_
    ·go_simp
    simp only [Act.put, List.getElem_toArray, List.getElem_cons_zero, List.getElem_cons_succ, List.setIfInBounds_toArray, List.set_cons_zero, List.set_cons_succ]
    refine wpAnyH_take (i := 6) (v := .int .i64 0) rfl (by kernel_rfl) (by kernel_rfl) (by kernel_rfl) (fun _ _ _ h => h) (Or.inl ⟨by rfl, fun w hSw => ?_⟩) hC2 ?_
    ·go_simp
    simp only [Act.put, List.getElem_toArray, List.getElem_cons_zero, List.getElem_cons_succ, List.setIfInBounds_toArray, List.set_cons_zero, List.set_cons_succ]
    refine wpAnyH_all (rs := [7]) (by kernel_rfl) (by simp) (fun j hj => ?_)
    obtain rfl : j = 7 := by simpa using hj
    refine Or.inl ?_
    have hbA0 : Below x2.heap.size x2 (x2.alloc (.cells #[.slice none 0 0] 66)) := (Below.refl _ _).alloc (Nat.le_refl _) _
    have Hv5 := Lib.hid ((Hv4.out.low.below hbA0).weaken (S' := fun b => b ≠ x2.heap.size) fun b hb e => by have := hb.2; omega)
    clear Hv4 hbA0
    have hC3 := hQ.alloc _ (.cells #[.slice none 0 0] 66) hC2
    go_simp
    have hbA : Below x2.heap.size x2 (x2.alloc (.cells #[.slice none 0 0] 66)) := (Below.refl _ _).alloc (Nat.le_refl _) _
    have HDb := Lib.hid (heap_alloc_new x2 (.cells #[.slice none 0 0] 66))
    have HDge := Lib.hid (hQb _ hC2).size
    clear hbA
    generalize x2.heap.size = D at *
    generalize x2.alloc (.cells #[.slice none 0 0] 66) = x3 at *
    refine wpAnyH_all (rs := [8]) (by kernel_rfl) (by simp) (fun j hj => ?_)
    obtain rfl : j = 8 := by simpa using hj
    refine Or.inl ?_
    have gz := block_cell (j := 0) HDb.out rfl
    have fz := block_free (j := 0) HDb.out
    have Hu7 := Lib.hid (show Upd (fun b => b = D) x3 (x3.setCell ⟨D, 0, none⟩ (.slice a4 3 c4)) from (Upd.refl (fun b => b = D) _).setCell (p := ⟨D, 0, none⟩) (fun _ => rfl) _)
    have Hb7 := Lib.hid (block_setCell (j := 0) HDb.out (.slice a4 3 c4))
    have hQ7 := HQu.out _ _ _ hC3 Hu7.out (fun b hb => by have := HDge.out; have e2 : b = D := hb; omega)
    have Hv7 := Lib.hid ((Hv5.out.upd Hu7.out (fun b hb e => hb e)).weaken (S' := fun _ => True) fun _ _ => trivial)
    go_wp2_with fail
    first | refine ⟨hQ7, ?_⟩ | skip
    change wpAnyH _ _ _ _ _ _ _ _ (x3.setCell ⟨D, 0, none⟩ (.slice a4 3 c4))
    generalize x3.setCell ⟨D, 0, none⟩ (.slice a4 3 c4) = w7 at *
    clear gz fz Hu7
    refine wpAnyH_take (i := 9) (v := .bool false) rfl (by kernel_rfl) (by kernel_rfl) (by kernel_rfl) (fun _ _ _ h => h) (Or.inl ⟨by rfl, fun w hSw => ?_⟩) hQ7 ?_
    ·go_simp
    simp only [Act.put, List.getElem_toArray, List.getElem_cons_zero, List.getElem_cons_succ, List.setIfInBounds_toArray, List.set_cons_zero, List.set_cons_succ]
    refine wpAnyH_all (rs := [10]) (by kernel_rfl) (by simp) (fun j hj => ?_)
    obtain rfl : j = 10 := by simpa using hj
    refine Or.inl ?_
    go_wp2_with fail
    first | refine ⟨hQ7, by kernel_rfl, ?_⟩ | refine ⟨by kernel_rfl, ?_⟩
    have HEnd := Lib.hid (show In T w7 ∧ ∃ a4 c4, w7.heap[D]? = some (.cells #[.slice a4 3 c4] 66 (0, 0)) ∧ RepsV (fun _ => True) w7 (.slice a4 3 c4) begL from ⟨HQT.out _ hQ7, a4, c4, Hb7.out, Hv7.out⟩)
    go_wp2_with fail
    go_meet
    exact ⟨D, rfl, rfl, rfl, w7, rfl, HEnd⟩
   ·skip
    obtain rfl : j = 7 := by simpa using hj
    refine Or.inl ?_
    have hC2 := hQ.alloc _ (.cells #[.slice none 0 0] 66) hC1
    go_simp
    have hbA : Below x1.heap.size x1 (x1.alloc (.cells #[.slice none 0 0] 66)) := (Below.refl _ _).alloc (Nat.le_refl _) _
    have HDb := Lib.hid (heap_alloc_new x1 (.cells #[.slice none 0 0] 66))
    have HDge := Lib.hid (hQb _ hC1).size
    replace Hos := Lib.hid (Hos.out.below hbA)
    replace Hom := Lib.hid (Hom.out.below hbA)
    clear hbA
    generalize x1.heap.size = D at *
    generalize x1.alloc (.cells #[.slice none 0 0] 66) = x2 at *
    refine wpAnyH_all (rs := [2]) (by kernel_rfl) (by simp) (fun j hj => ?_)
    obtain rfl : j = 2 := by simpa using hj
    refine Or.inl ?_
    have HP4 := Lib.hid (HPx.out _ _ _ (HQT.out _ hC2) Hos.out Hom.out)
    simp only [pshV] at HP4
    clear Hos Hom
    go_wp2_with fail
    refine HP4.out.mono ?_
    rintro e x12 ⟨v4, rfl, hv4, hb0⟩
    have hC3 := hQn _ _ hC2 hb0
    obtain ⟨F4, hO4, hF4⟩ := hv4
    obtain ⟨a4, c4, hs4⟩ := hO4.shape
    replace hs4 : v4 = .slice a4 3 c4 := hs4
    subst hs4
    have Hv4 := Lib.hid (show RepsV (fun b => x2.heap.size ≤ b) x12 (.slice a4 3 c4) begL from hO4.reps (by decide) hF4 (fun b hb => (hO4.block hb).1))
    have HDx := Lib.hid (show D < x2.heap.size from lt_of_block HDb.out)
    replace HDb := Lib.hid (blk_below HDb.out hb0)
    have Hv5 := Lib.hid (Hv4.out.weaken (S' := fun b => b ≠ D) fun b hb e => by have := HDx.out; omega)
    clear Hv4
    clear hO4 hF4 hb0 HP4
    generalize x12 = x3 at *
    go_simp
    refine wpAnyH_take (i := 3) (v := .tuple #[.agg #[.slice a4 3 c4], .bool false, .int .i64 0]) rfl (by kernel_rfl) (by kernel_rfl) (by kernel_rfl) (fun _ _ _ h => h) (Or.inl ⟨by rfl, fun w hSw => ?_⟩) hC3 ?_
    ·go_simp
    simp only [Act.put, List.getElem_toArray, List.getElem_cons_zero, List.getElem_cons_succ, List.setIfInBounds_toArray, List.set_cons_zero, List.set_cons_succ]
    refine wpAnyH_take (i := 4) (v := .agg #[.slice a4 3 c4]) rfl (by kernel_rfl) (by kernel_rfl) (by kernel_rfl) (fun _ _ _ h => h) (Or.inl ⟨by rfl, fun w hSw => ?_⟩) hC3 ?_
    ·go_simp
    simp only [Act.put, List.getElem_toArray, List.getElem_cons_zero, List.getElem_cons_succ, List.setIfInBounds_toArray, List.set_cons_zero, List.set_cons_succ]
    refine wpAnyH_take (i := 5) (v := .bool false) rfl (by kernel_rfl) (by kernel_rfl) (by kernel_rfl) (fun _ _ _ h => h) (Or.inl ⟨by rfl, fun w hSw => ?_⟩) hC3 ?_
    ·go_simp
    simp only [Act.put, List.getElem_toArray, List.getElem_cons_zero, List.getElem_cons_succ, List.setIfInBounds_toArray, List.set_cons_zero, List.set_cons_succ]
    refine wpAnyH_take (i := 6) (v := .int .i64 0) rfl (by kernel_rfl) (by kernel_rfl) (by kernel_rfl) (fun _ _ _ h => h) (Or.inl ⟨by rfl, fun w hSw => ?_⟩) hC3 ?_
    ·go_simp
    simp only [Act.put, List.getElem_toArray, List.getElem_cons_zero, List.getElem_cons_succ, List.setIfInBounds_toArray, List.set_cons_zero, List.set_cons_succ]
    refine wpAnyH_all (rs := [8]) (by kernel_rfl) (by simp) (fun j hj => ?_)
    obtain rfl : j = 8 := by simpa using hj
    refine Or.inl ?_
    have gz := block_cell (j := 0) HDb.out rfl
    have fz := block_free (j := 0) HDb.out
    have Hu7 := Lib.hid (show Upd (fun b => b = D) x3 (x3.setCell ⟨D, 0, none⟩ (.slice a4 3 c4)) from (Upd.refl (fun b => b = D) _).setCell (p := ⟨D, 0, none⟩) (fun _ => rfl) _)
    have Hb7 := Lib.hid (block_setCell (j := 0) HDb.out (.slice a4 3 c4))
    have hQ7 := HQu.out _ _ _ hC3 Hu7.out (fun b hb => by have := HDge.out; have e2 : b = D := hb; omega)
    have Hv7 := Lib.hid ((Hv5.out.upd Hu7.out (fun b hb e => hb e)).weaken (S' := fun _ => True) fun _ _ => trivial)
    go_wp2_with fail
    first | refine ⟨hQ7, ?_⟩ | skip
    change wpAnyH _ _ _ _ _ _ _ _ (x3.setCell ⟨D, 0, none⟩ (.slice a4 3 c4))
    generalize x3.setCell ⟨D, 0, none⟩ (.slice a4 3 c4) = w7 at *
    clear gz fz Hu7
    refine wpAnyH_take (i := 9) (v := .bool false) rfl (by kernel_rfl) (by kernel_rfl) (by kernel_rfl) (fun _ _ _ h => h) (Or.inl ⟨by rfl, fun w hSw => ?_⟩) hQ7 ?_
    ·go_simp
    simp only [Act.put, List.getElem_toArray, List.getElem_cons_zero, List.getElem_cons_succ, List.setIfInBounds_toArray, List.set_cons_zero, List.set_cons_succ]
    refine wpAnyH_all (rs := [10]) (by kernel_rfl) (by simp) (fun j hj => ?_)
    obtain rfl : j = 10 := by simpa using hj
    refine Or.inl ?_
    go_wp2_with fail
    first | refine ⟨hQ7, by kernel_rfl, ?_⟩ | refine ⟨by kernel_rfl, ?_⟩
    have HEnd := Lib.hid (show In T w7 ∧ ∃ a4 c4, w7.heap[D]? = some (.cells #[.slice a4 3 c4] 66 (0, 0)) ∧ RepsV (fun _ => True) w7 (.slice a4 3 c4) begL from ⟨HQT.out _ hQ7, a4, c4, Hb7.out, Hv7.out⟩)
    go_wp2_with fail
    go_meet
    exact ⟨D, rfl, rfl, rfl, w7, rfl, HEnd⟩
  ·skip
   obtain rfl : j = 7 := by simpa using hj
   refine Or.inl ?_
   have hC1 := hQ.alloc _ (.cells #[.slice none 0 0] 66) hC0
   go_simp
   have hbA : Below x0.heap.size x0 (x0.alloc (.cells #[.slice none 0 0] 66)) := (Below.refl _ _).alloc (Nat.le_refl _) _
   have HDb := Lib.hid (heap_alloc_new x0 (.cells #[.slice none 0 0] 66))
   have HDge := Lib.hid (hQb _ hC0).size
   clear hbA
   generalize x0.heap.size = D at *
   generalize x0.alloc (.cells #[.slice none 0 0] 66) = x1 at *
   refine wpAnyH_all (rs := [1]) (by kernel_rfl) (by simp) (fun j hj => ?_)
   obtain rfl : j = 1 := by simpa using hj
   refine Or.inl ?_
   go_wp2_with fail
   refine (first_any _).mono ?_
   rintro e x11 ⟨ov4, uv4, rfl, ho4, hu4, hb0⟩
   obtain ⟨oa4, oc4, rfl⟩ := ho4.vshape
   obtain ⟨⟨ua4, uc4⟩, rfl⟩ := hu4.shape
   have hC2 := hQn _ _ hC1 hb0
   replace HDb := Lib.hid (blk_below HDb.out hb0)
   have Hos := Lib.hid (ho4.weaken (S' := fun _ => True) fun _ _ => trivial)
   have Hom := Lib.hid (hu4.weaken (S' := fun _ => True) fun _ _ => trivial)
   clear ho4 hu4 hb0
   generalize x11 = x2 at *
   simp only [pshV]
   go_simp
   refine wpAnyH_all (rs := [2]) (by kernel_rfl) (by simp) (fun j hj => ?_)
   obtain rfl : j = 2 := by simpa using hj
   refine Or.inl ?_
   have HP4 := Lib.hid (HPx.out _ _ _ (HQT.out _ hC2) Hos.out Hom.out)
   simp only [pshV] at HP4
   clear Hos Hom
   go_wp2_with fail
   refine HP4.out.mono ?_
   rintro e x12 ⟨v4, rfl, hv4, hb0⟩
   have hC3 := hQn _ _ hC2 hb0
   obtain ⟨F4, hO4, hF4⟩ := hv4
   obtain ⟨a4, c4, hs4⟩ := hO4.shape
   replace hs4 : v4 = .slice a4 3 c4 := hs4
   subst hs4
   have Hv4 := Lib.hid (show RepsV (fun b => x2.heap.size ≤ b) x12 (.slice a4 3 c4) begL from hO4.reps (by decide) hF4 (fun b hb => (hO4.block hb).1))
   have HDx := Lib.hid (show D < x2.heap.size from lt_of_block HDb.out)
   replace HDb := Lib.hid (blk_below HDb.out hb0)
   have Hv5 := Lib.hid (Hv4.out.weaken (S' := fun b => b ≠ D) fun b hb e => by have := HDx.out; omega)
   clear Hv4
   clear hO4 hF4 hb0 HP4
   generalize x12 = x3 at *
   go_simp
   refine wpAnyH_take (i := 3) (v := .tuple #[.agg #[.slice a4 3 c4], .bool false, .int .i64 0]) rfl (by kernel_rfl) (by kernel_rfl) (by kernel_rfl) (fun _ _ _ h => h) (Or.inl ⟨by rfl, fun w hSw => ?_⟩) hC3 ?_
   ·go_simp
   simp only [Act.put, List.getElem_toArray, List.getElem_cons_zero, List.getElem_cons_succ, List.setIfInBounds_toArray, List.set_cons_zero, List.set_cons_succ]
   refine wpAnyH_take (i := 4) (v := .agg #[.slice a4 3 c4]) rfl (by kernel_rfl) (by kernel_rfl) (by kernel_rfl) (fun _ _ _ h => h) (Or.inl ⟨by rfl, fun w hSw => ?_⟩) hC3 ?_
   ·go_simp
   simp only [Act.put, List.getElem_toArray, List.getElem_cons_zero, List.getElem_cons_succ, List.setIfInBounds_toArray, List.set_cons_zero, List.set_cons_succ]
   refine wpAnyH_take (i := 5) (v := .bool false) rfl (by kernel_rfl) (by kernel_rfl) (by kernel_rfl) (fun _ _ _ h => h) (Or.inl ⟨by rfl, fun w hSw => ?_⟩) hC3 ?_
   ·go_simp
   simp only [Act.put, List.getElem_toArray, List.getElem_cons_zero, List.getElem_cons_succ, List.setIfInBounds_toArray, List.set_cons_zero, List.set_cons_succ]
   refine wpAnyH_take (i := 6) (v := .int .i64 0) rfl (by kernel_rfl) (by kernel_rfl) (by kernel_rfl) (fun _ _ _ h => h) (Or.inl ⟨by rfl, fun w hSw => ?_⟩) hC3 ?_
   ·go_simp
   simp only [Act.put, List.getElem_toArray, List.getElem_cons_zero, List.getElem_cons_succ, List.setIfInBounds_toArray, List.set_cons_zero, List.set_cons_succ]
   refine wpAnyH_all (rs := [8]) (by kernel_rfl) (by simp) (fun j hj => ?_)
   obtain rfl : j = 8 := by simpa using hj
   refine Or.inl ?_
   have gz := block_cell (j := 0) HDb.out rfl
   have fz := block_free (j := 0) HDb.out
   have Hu7 := Lib.hid (show Upd (fun b => b = D) x3 (x3.setCell ⟨D, 0, none⟩ (.slice a4 3 c4)) from (Upd.refl (fun b => b = D) _).setCell (p := ⟨D, 0, none⟩) (fun _ => rfl) _)
   have Hb7 := Lib.hid (block_setCell (j := 0) HDb.out (.slice a4 3 c4))
   have hQ7 := HQu.out _ _ _ hC3 Hu7.out (fun b hb => by have := HDge.out; have e2 : b = D := hb; omega)
   have Hv7 := Lib.hid ((Hv5.out.upd Hu7.out (fun b hb e => hb e)).weaken (S' := fun _ => True) fun _ _ => trivial)
   go_wp2_with fail
   first | refine ⟨hQ7, ?_⟩ | skip
   change wpAnyH _ _ _ _ _ _ _ _ (x3.setCell ⟨D, 0, none⟩ (.slice a4 3 c4))
   generalize x3.setCell ⟨D, 0, none⟩ (.slice a4 3 c4) = w7 at *
   clear gz fz Hu7
   refine wpAnyH_take (i := 9) (v := .bool false) rfl (by kernel_rfl) (by kernel_rfl) (by kernel_rfl) (fun _ _ _ h => h) (Or.inl ⟨by rfl, fun w hSw => ?_⟩) hQ7 ?_
   ·go_simp
   simp only [Act.put, List.getElem_toArray, List.getElem_cons_zero, List.getElem_cons_succ, List.setIfInBounds_toArray, List.set_cons_zero, List.set_cons_succ]
   refine wpAnyH_all (rs := [10]) (by kernel_rfl) (by simp) (fun j hj => ?_)
   obtain rfl : j = 10 := by simpa using hj
   refine Or.inl ?_
   go_wp2_with fail
   first | refine ⟨hQ7, by kernel_rfl, ?_⟩ | refine ⟨by kernel_rfl, ?_⟩
   have HEnd := Lib.hid (show In T w7 ∧ ∃ a4 c4, w7.heap[D]? = some (.cells #[.slice a4 3 c4] 66 (0, 0)) ∧ RepsV (fun _ => True) w7 (.slice a4 3 c4) begL from ⟨HQT.out _ hQ7, a4, c4, Hb7.out, Hv7.out⟩)
   go_wp2_with fail
   go_meet
   exact ⟨D, rfl, rfl, rfl, w7, rfl, HEnd⟩
 case rest =>
  obtain ⟨D4, rfl, rfl, rfl, y4, rfl, HK4⟩ := hcut
  obtain ⟨hT4, a4, c4, hD4, hv4⟩ := HK4.out
  have HD4 := Lib.hid hD4
  have Hv4 := Lib.hid hv4
  clear HK4 hD4 hv4 cc
  go_wp2_with fail
  refine (cluNew_any _).mono ?_
  rintro e w5 ⟨v5, rfl, hv5, hb5⟩
  obtain ⟨a5, c5, rfl⟩ := hv5.vshape
  have hT5 := hTn _ _ hT4 hb5
  have HD5 := Lib.hid (blk_below HD4.out hb5)
  have Hv45 := Lib.hid (Hv4.out.below hb5)
  have Hv5 := Lib.hid hv5
  clear hv5 hb5 HD4 Hv4
  go_wp2_with fail
  refine (first_any _).mono ?_
  rintro e w6 ⟨ov6, uv6, rfl, ho6, hu6, hb6⟩
  obtain ⟨oa6, oc6, rfl⟩ := ho6.vshape
  obtain ⟨⟨ua6, uc6⟩, rfl⟩ := hu6.shape
  have hT6 := hTn _ _ hT5 hb6
  have HP := Lib.hid (cluPush_any _ firstP 7 3 _ _ _ _ _ w6 (Hv5.out.below hb6) ⟨ho6.weaken (S' := fun _ => True) (fun _ _ => trivial), hu6.weaken (fun _ _ => trivial)⟩ (HT.out _ (HBx.out _ hT6)))
  rw [cb7, cb8] at HP
  simp only [pshV] at HP ⊢
  have HD6 := Lib.hid (blk_below HD5.out hb6)
  have Hv46 := Lib.hid (Hv45.out.below hb6)
  clear ho6 hu6 hb6 Hv5 HD5 Hv45
  go_wp2_with fail
  refine HP.out.mono ?_
  rintro e w7 ⟨v7, rfl, hv7, hb7⟩
  obtain ⟨F7, hO7, _⟩ := hv7
  obtain ⟨a7, c7, rfl⟩ := hO7.shape
  have hT7 := hTn _ _ hT6 hb7
  have HD7 := Lib.hid (blk_below HD6.out hb7)
  have Hv47 := Lib.hid (Hv46.out.below hb7)
  clear hO7 hb7 HP HD6 Hv46
  generalize (pushCL [rep0, rep0, rep0] firstP 7 3).length = n7 at *
  have hT8 := hT.alloc _ (.cells #[.slice a7 n7 c7] 66) hT7
  have hbA : Below w7.heap.size w7 (w7.alloc (.cells #[.slice a7 n7 c7] 66)) := (Below.refl _ _).alloc (Nat.le_refl _) _
  have HD8 := Lib.hid (blk_below HD7.out hbA)
  have Hv48 := Lib.hid (Hv47.out.below hbA)
  clear hbA HD7 Hv47
  have cc := c0 _ hT8
  have HNw := Lib.hid (fun x (hx : In T x) => newest_any begL _ _ x (Hv3.out.below (HAx.out _ hx)))
  rw [cb9, cb10] at HNw
  have HCk := Lib.hid (fun x (hx : In T x) => cluCheck_any begL _ _ x (Hv3.out.below (HAx.out _ hx)))
  rw [cb9] at HCk
  go_wp2_with fail
  refine (HNw.out _ hT8).mono ?_
  rintro e w9 ⟨rfl, hb9⟩
  have hT9 := hTn _ _ hT8 hb9
  have HD9 := Lib.hid (blk_below HD8.out hb9)
  have Hv49 := Lib.hid (Hv48.out.below hb9)
  clear hb9 HD8 Hv48 cc
  have cc := c0 _ hT9
  go_wp2_with fail
  refine (HCk.out _ hT9).mono ?_
  rintro e w10 ⟨rfl, hb10⟩
  have hT10 := hTn _ _ hT9 hb10
  have HD10 := Lib.hid (blk_below HD9.out hb10)
  have Hv410 := Lib.hid (Hv49.out.below hb10)
  clear hb10 HD9 Hv49 cc
  have cc := c0 _ hT10
  have dd := block_cell (j := 0) HD10.out rfl
  have y1 := Hg1.out _ (HAx.out _ hT10)
  have y2 := Hg2.out _ (HAx.out _ hT10)
  have HS := Lib.hid (sameCluster_any begL begL _ _ _ _ w10 (Hv3.out.below (HAx.out _ hT10)) Hv410.out)
  rw [(sameClu_iff _ _).2 rfl] at HS
  go_wp2_with fail
  refine HS.out.mono ?_
  rintro e w11 ⟨rfl, hb11⟩
  have HE := Lib.hid (HBx.out _ (hTn _ _ hT10 hb11))
  clear hb11
  go_wp2_with fail
  go_ret
  exact ⟨rfl, HE.out⟩
end Go.Proofs.YtjdgpgfiomnjkaaGreatDoor
namespace Go.Proofs.YtjdgpgfiomnjkaaGreatDoor
open Go.RowKit
set_option linter.unusedVariables false
set_option linter.unusedSimpArgs false
def bB : ByteArray := ⟨#[98]⟩
def bP : Psh := ⟨[], [⟨bB, 0, 3⟩], false⟩
def sa0 : Ac := ⟨1, 0, 7, 4, firstP⟩
def sa1 : Ac := ⟨1, 0, 6, 0, bP⟩
def sa2 : Ac := ⟨2, 2, 0, 0, psh0⟩
def sa4 : Ac := ⟨3, 3, 0, 0, psh0⟩
def scriptS : List Ac := [sa0, sa1, sa2, sa1, sa4]
def twoR : Rep := ⟨shelfL.take 3, [⟨bB, 3⟩, ⟨mainB, 3⟩], 2, 0, psh0⟩
def endL : List Rep := [oneR, twoR, twoR]
theorem sc1 : stepL new3 sa0 = begL := (sameClu_iff _ _).1 (by decide +kernel)
theorem sc2 : stepL begL sa1 = begL := (sameClu_iff _ _).1 (by decide +kernel)
theorem sc3 : stepL begL sa2 = [oneR, oneR, oneR] := (sameClu_iff _ _).1 (by decide +kernel)
theorem sc4 : stepL [oneR, oneR, oneR] sa1 = endL := (sameClu_iff _ _).1 (by decide +kernel)
theorem sc5 : stepL endL sa4 = endL := (sameClu_iff _ _).1 (by decide +kernel)
theorem st1 : toldB new3 sa0 = true := by decide +kernel
theorem st2 : toldB begL sa1 = false := by decide +kernel
theorem st3 : toldB begL sa2 = true := by decide +kernel
theorem st4 : toldB [oneR, oneR, oneR] sa1 = true := by decide +kernel
theorem st5 : toldB endL sa4 = false := by decide +kernel
theorem se5 : actE endL sa4 = 3 := by decide +kernel
theorem sd : doE endL ⟨2, 0, 0, 0, psh0⟩ = 0 ∧ doD endL ⟨2, 0, 0, 0, psh0⟩ = true ∧ (doL endL ⟨2, 0, 0, 0, psh0⟩).length = 3 ∧ (rep (doL endL ⟨2, 0, 0, 0, psh0⟩) 0).gen = 2 := by decide +kernel
theorem ss : cluE endL = 0 ∧ showC endL = ⟨#[50, 58, 98, 61, 51, 59, 109, 97, 105, 110, 61, 51, 59]⟩ := by decide +kernel
theorem run1 : runL scriptS 1 = begL := sc1
theorem run2 : runL scriptS 2 = begL := by rw [show runL scriptS 2 = stepL (runL scriptS 1) sa1 from rfl, run1, sc2]
theorem run3 : runL scriptS 3 = [oneR, oneR, oneR] := by rw [show runL scriptS 3 = stepL (runL scriptS 2) sa2 from rfl, run2, sc3]
theorem run4 : runL scriptS 4 = endL := by rw [show runL scriptS 4 = stepL (runL scriptS 3) sa1 from rfl, run3, sc4]
theorem run5 : runL scriptS 5 = endL := by rw [show runL scriptS 5 = stepL (runL scriptS 4) sa4 from rfl, run4, sc5]
theorem rund : runD scriptS 5 = [true, false, true, true, false] := by
 show [toldB new3 sa0] ++ [toldB (runL scriptS 1) sa1] ++ [toldB (runL scriptS 2) sa2] ++ [toldB (runL scriptS 3) sa1] ++ [toldB (runL scriptS 4) sa4] = _
 rw [run1, run2, run3, run4, st1, st2, st3, st4, st5]; rfl
theorem rune : ∃ l : List Int, l.length = 4 ∧ runE scriptS 5 = l ++ [3] := ⟨runE scriptS 4, runE_length _ _, by rw [show runE scriptS 5 = runE scriptS 4 ++ [actE (runL scriptS 4) sa4] from rfl, run4, se5]⟩
set_option maxRecDepth 100000 in
set_option maxHeartbeats 4000000 in
theorem script_any (w : World) : Calls Tryz.prog 109 #[] w fun e w' => ∃ v, e = .returned v ∧ ActsV (fun b => w.heap.size ≤ b) w' v scriptS ∧ Below w.heap.size w w' := by
 go_enter Tryz.func109, Tryz.ntmps109
 go_wp2_with fail
 refine (first_any _).mono ?_
 rintro e w1 ⟨ov, uv, rfl, ho, hu, hb1⟩
 obtain ⟨oa, oc, rfl⟩ := ho.vshape
 obtain ⟨⟨ua, uc⟩, rfl⟩ := hu.shape
 have Ho := Lib.hid ho
 have Hu := Lib.hid hu
 have HB1 := Lib.hid hb1
 clear ho hu hb1
 simp only [pshV, show firstP.force = false from rfl]
 go_wp2_with fail
 have hz1 : (w1.alloc (.cells #[.string ⟨#[98]⟩, .int .i64 0, .int .i64 3] 107)).heap.size = w1.heap.size + 1 := by simp
 have hz2 : ((w1.alloc (.cells #[.string ⟨#[98]⟩, .int .i64 0, .int .i64 3] 107)).alloc (.cells #[.string ⟨#[98]⟩, .int .i64 0, .int .i64 3] 107)).heap.size = w1.heap.size + 1 + 1 := by simp
 have hU1 : MvsV (fun b => b = w1.heap.size) (w1.alloc (.cells #[.string ⟨#[98]⟩, .int .i64 0, .int .i64 3] 107)) (.slice (some ⟨w1.heap.size, 0, none⟩) 1 1) bP.updates := mvs_new w1 bP.updates 107 w1.heap.size rfl (by decide) (fun u hu => by
  simp only [bP, List.mem_cons, List.not_mem_nil, or_false] at hu
  subst hu
  exact ⟨small64 _ (by decide), small64 _ (by decide), by decide⟩)
 have hU2 : MvsV (fun b => b = w1.heap.size + 1) ((w1.alloc (.cells #[.string ⟨#[98]⟩, .int .i64 0, .int .i64 3] 107)).alloc (.cells #[.string ⟨#[98]⟩, .int .i64 0, .int .i64 3] 107)) (.slice (some ⟨w1.heap.size + 1, 0, none⟩) 1 1) bP.updates := mvs_new (w1.alloc (.cells #[.string ⟨#[98]⟩, .int .i64 0, .int .i64 3] 107)) bP.updates 107 (w1.heap.size + 1) hz1.symm (by decide) (fun u hu => by
  simp only [bP, List.mem_cons, List.not_mem_nil, or_false] at hu
  subst hu
  exact ⟨small64 _ (by decide), small64 _ (by decide), by decide⟩)
 have hX := heap_alloc_new ((w1.alloc (.cells #[.string ⟨#[98]⟩, .int .i64 0, .int .i64 3] 107)).alloc (.cells #[.string ⟨#[98]⟩, .int .i64 0, .int .i64 3] 107)) (.cells #[.int .i64 1, .int .i64 0, .int .i64 7, .int .i64 4, .slice oa firstP.objects.length oc, .slice ua firstP.updates.length uc, .bool false, .int .i64 1, .int .i64 0, .int .i64 6, .int .i64 0, .slice none 0 0, .slice (some ⟨w1.heap.size, 0, none⟩) 1 1, .bool false, .int .i64 2, .int .i64 2, .int .i64 0, .int .i64 0, .slice none 0 0, .slice none 0 0, .bool false, .int .i64 1, .int .i64 0, .int .i64 6, .int .i64 0, .slice none 0 0, .slice (some ⟨w1.heap.size + 1, 0, none⟩) 1 1, .bool false, .int .i64 3, .int .i64 3, .int .i64 0, .int .i64 0, .slice none 0 0, .slice none 0 0, .bool false] 68)
 rw [hz2] at hX
 have hbU : Below w1.heap.size w1 (w1.alloc (.cells #[.string ⟨#[98]⟩, .int .i64 0, .int .i64 3] 107)) := (Below.refl _ _).alloc (Nat.le_refl _) _
 have hbV : Below (w1.heap.size + 1) (w1.alloc (.cells #[.string ⟨#[98]⟩, .int .i64 0, .int .i64 3] 107)) (((w1.alloc (.cells #[.string ⟨#[98]⟩, .int .i64 0, .int .i64 3] 107)).alloc (.cells #[.string ⟨#[98]⟩, .int .i64 0, .int .i64 3] 107)).alloc (.cells #[.int .i64 1, .int .i64 0, .int .i64 7, .int .i64 4, .slice oa firstP.objects.length oc, .slice ua firstP.updates.length uc, .bool false, .int .i64 1, .int .i64 0, .int .i64 6, .int .i64 0, .slice none 0 0, .slice (some ⟨w1.heap.size, 0, none⟩) 1 1, .bool false, .int .i64 2, .int .i64 2, .int .i64 0, .int .i64 0, .slice none 0 0, .slice none 0 0, .bool false, .int .i64 1, .int .i64 0, .int .i64 6, .int .i64 0, .slice none 0 0, .slice (some ⟨w1.heap.size + 1, 0, none⟩) 1 1, .bool false, .int .i64 3, .int .i64 3, .int .i64 0, .int .i64 0, .slice none 0 0, .slice none 0 0, .bool false] 68)) := ((Below.refl _ _).alloc (by omega) _).alloc (by omega) _
 have hbW : Below (w1.heap.size + 1 + 1) ((w1.alloc (.cells #[.string ⟨#[98]⟩, .int .i64 0, .int .i64 3] 107)).alloc (.cells #[.string ⟨#[98]⟩, .int .i64 0, .int .i64 3] 107)) (((w1.alloc (.cells #[.string ⟨#[98]⟩, .int .i64 0, .int .i64 3] 107)).alloc (.cells #[.string ⟨#[98]⟩, .int .i64 0, .int .i64 3] 107)).alloc (.cells #[.int .i64 1, .int .i64 0, .int .i64 7, .int .i64 4, .slice oa firstP.objects.length oc, .slice ua firstP.updates.length uc, .bool false, .int .i64 1, .int .i64 0, .int .i64 6, .int .i64 0, .slice none 0 0, .slice (some ⟨w1.heap.size, 0, none⟩) 1 1, .bool false, .int .i64 2, .int .i64 2, .int .i64 0, .int .i64 0, .slice none 0 0, .slice none 0 0, .bool false, .int .i64 1, .int .i64 0, .int .i64 6, .int .i64 0, .slice none 0 0, .slice (some ⟨w1.heap.size + 1, 0, none⟩) 1 1, .bool false, .int .i64 3, .int .i64 3, .int .i64 0, .int .i64 0, .slice none 0 0, .slice none 0 0, .bool false] 68)) := (Below.refl _ _).alloc (by omega) _
 have hb := hbU.trans (hbV.mono (by omega))
 have H1 := Lib.hid (show MvsV (fun b => b = w1.heap.size) (((w1.alloc (.cells #[.string ⟨#[98]⟩, .int .i64 0, .int .i64 3] 107)).alloc (.cells #[.string ⟨#[98]⟩, .int .i64 0, .int .i64 3] 107)).alloc (.cells #[.int .i64 1, .int .i64 0, .int .i64 7, .int .i64 4, .slice oa firstP.objects.length oc, .slice ua firstP.updates.length uc, .bool false, .int .i64 1, .int .i64 0, .int .i64 6, .int .i64 0, .slice none 0 0, .slice (some ⟨w1.heap.size, 0, none⟩) 1 1, .bool false, .int .i64 2, .int .i64 2, .int .i64 0, .int .i64 0, .slice none 0 0, .slice none 0 0, .bool false, .int .i64 1, .int .i64 0, .int .i64 6, .int .i64 0, .slice none 0 0, .slice (some ⟨w1.heap.size + 1, 0, none⟩) 1 1, .bool false, .int .i64 3, .int .i64 3, .int .i64 0, .int .i64 0, .slice none 0 0, .slice none 0 0, .bool false] 68)) (.slice (some ⟨w1.heap.size, 0, none⟩) 1 1) bP.updates from MvsV.below hU1 (by rw [hz1]; exact hbV))
 have H2 := Lib.hid (show MvsV (fun b => b = w1.heap.size + 1) (((w1.alloc (.cells #[.string ⟨#[98]⟩, .int .i64 0, .int .i64 3] 107)).alloc (.cells #[.string ⟨#[98]⟩, .int .i64 0, .int .i64 3] 107)).alloc (.cells #[.int .i64 1, .int .i64 0, .int .i64 7, .int .i64 4, .slice oa firstP.objects.length oc, .slice ua firstP.updates.length uc, .bool false, .int .i64 1, .int .i64 0, .int .i64 6, .int .i64 0, .slice none 0 0, .slice (some ⟨w1.heap.size, 0, none⟩) 1 1, .bool false, .int .i64 2, .int .i64 2, .int .i64 0, .int .i64 0, .slice none 0 0, .slice none 0 0, .bool false, .int .i64 1, .int .i64 0, .int .i64 6, .int .i64 0, .slice none 0 0, .slice (some ⟨w1.heap.size + 1, 0, none⟩) 1 1, .bool false, .int .i64 3, .int .i64 3, .int .i64 0, .int .i64 0, .slice none 0 0, .slice none 0 0, .bool false] 68)) (.slice (some ⟨w1.heap.size + 1, 0, none⟩) 1 1) bP.updates from MvsV.below hU2 (by rw [hz2]; exact hbW))
 have Hb := Lib.hid hb
 have HX := Lib.hid hX
 have hw1 := HB1.out.size
 clear hU1 hU2 hX hbU hbV hbW hb hz1 hz2
 go_ret
 generalize (((w1.alloc (.cells #[.string ⟨#[98]⟩, .int .i64 0, .int .i64 3] 107)).alloc (.cells #[.string ⟨#[98]⟩, .int .i64 0, .int .i64 3] 107)).alloc (.cells #[.int .i64 1, .int .i64 0, .int .i64 7, .int .i64 4, .slice oa firstP.objects.length oc, .slice ua firstP.updates.length uc, .bool false, .int .i64 1, .int .i64 0, .int .i64 6, .int .i64 0, .slice none 0 0, .slice (some ⟨w1.heap.size, 0, none⟩) 1 1, .bool false, .int .i64 2, .int .i64 2, .int .i64 0, .int .i64 0, .slice none 0 0, .slice none 0 0, .bool false, .int .i64 1, .int .i64 0, .int .i64 6, .int .i64 0, .slice none 0 0, .slice (some ⟨w1.heap.size + 1, 0, none⟩) 1 1, .bool false, .int .i64 3, .int .i64 3, .int .i64 0, .int .i64 0, .slice none 0 0, .slice none 0 0, .bool false] 68)) = x at *
 refine ⟨_, rfl, ⟨fun i => if i = 0 then ⟨.slice oa firstP.objects.length oc, .slice ua firstP.updates.length uc⟩ else if i = 1 then ⟨.slice none 0 0, .slice (some ⟨w1.heap.size, 0, none⟩) 1 1⟩ else if i = 3 then ⟨.slice none 0 0, .slice (some ⟨w1.heap.size + 1, 0, none⟩) 1 1⟩ else ⟨.slice none 0 0, .slice none 0 0⟩, ⟨_, 5, rfl, by decide, by decide, by decide, fun _ => ⟨_, 0, rfl, by omega, fun i hi j u hu => ?_⟩⟩, fun i hi => ?_⟩, HB1.out.trans (Hb.out.mono (by omega))⟩
 ·have hj : j < 7 := by
   rcases Nat.lt_or_ge j 7 with h | h
   ·exact h
   ·rw [List.getElem?_eq_none (by simpa [acC] using h)] at hu; cases hu
  have h1 : i = 0 ∨ i = 1 ∨ i = 2 ∨ i = 3 ∨ i = 4 := by have : i < 5 := hi; omega
  have h2 : j = 0 ∨ j = 1 ∨ j = 2 ∨ j = 3 ∨ j = 4 ∨ j = 5 ∨ j = 6 := by omega
  rcases h1 with rfl | rfl | rfl | rfl | rfl <;> rcases h2 with rfl | rfl | rfl | rfl | rfl | rfl | rfl <;> (cases hu; exact block_cell HX.out rfl)
 ·have h1 : i = 0 ∨ i = 1 ∨ i = 2 ∨ i = 3 ∨ i = 4 := by have : i < 5 := hi; omega
  have hp0 : StoreV (fun b => w.heap.size ≤ b) x (.slice none 0 0) [] := StoreV.nil _ _ _ _ (by omega)
  have hp1 : MvsV (fun b => w.heap.size ≤ b) x (.slice none 0 0) [] := MvsV.nil _ _ _ _ (by omega)
  rcases h1 with rfl | rfl | rfl | rfl | rfl
  ·exact ⟨(Ho.out.below Hb.out).weaken fun b hb => hb, (Hu.out.below Hb.out).weaken fun b hb => hb, small64 _ (by decide), small64 _ (by decide), small64 _ (by decide), small64 _ (by decide)⟩
  ·exact ⟨hp0, H1.out.weaken fun b hb => by omega, small64 _ (by decide), small64 _ (by decide), small64 _ (by decide), small64 _ (by decide)⟩
  ·exact ⟨hp0, hp1, small64 _ (by decide), small64 _ (by decide), small64 _ (by decide), small64 _ (by decide)⟩
  ·exact ⟨hp0, H2.out.weaken fun b hb => by omega, small64 _ (by decide), small64 _ (by decide), small64 _ (by decide), small64 _ (by decide)⟩
  ·exact ⟨hp0, hp1, small64 _ (by decide), small64 _ (by decide), small64 _ (by decide), small64 _ (by decide)⟩
theorem own_one {w : World} {B n : Nat} {e : TypeId} {v : Value} {zs : List Value} (h : w.ownsRow B e 1 v n zs) (hn : 0 < n) :
  ∃ g cap, v = .slice (some ⟨g, 0, none⟩) n cap ∧ ∀ (x : World) (i : Nat) (u : Value), Below w.heap.size w x → zs[i]? = some u → x.cell? ⟨g, i, none⟩ = some u := by
 rcases h.2 with ⟨rfl, rfl⟩ | ⟨g, cap, cur, rfl, _, hg, _⟩
 ·omega
 ·refine ⟨g, cap, rfl, fun x i u hx hu => below_cell hx ?_⟩
  have := h.cells (g := g) rfl i u hu
  by_cases h0 : i = 0
  ·subst h0; exact this
  ·simpa [Addr.add, h0] using this
set_option maxRecDepth 100000 in
set_option maxHeartbeats 16000000 in
theorem deskBegun_any (w : World) (ht : Tab w) : Calls Tryz.prog 42 #[] w fun e w' => e = .returned (.bool true) ∧ Below w.heap.size w w' := by
 have HT := Lib.hid (fun x (hx : Below w.heap.size w x) => ht.below hx)
 clear ht
 go_enter Tryz.func42, Tryz.ntmps42
 go_wp2_with fail
 refine (script_any _).mono ?_
 rintro e w1 ⟨v, rfl, hv, hb1⟩
 have HB1 := Lib.hid hb1
 have HR := Lib.hid (deskRun_any scriptS v _ w1 hv (HT.out _ hb1))
 obtain ⟨va, vc, rfl⟩ := hv.vshape
 rw [show runW scriptS = 0 from rfl] at HR
 clear hv hb1
 go_wp2_with fail
 refine HR.out.mono ?_
 rintro e w2 ⟨cv, tv, dv, rfl, hrv, hb2⟩
 have hc0 : RepsV (fun b => w1.heap.size ≤ b) w2 cv endL := by
  have h1 := hrv.clu
  rw [show runC scriptS = endL from (if_pos (by decide)).trans run5] at h1; exact h1
 have ht0 : w2.ownsRow w1.heap.size 4 1 tv 5 [.bool true, .bool false, .bool true, .bool true, .bool false] := by
  have h1 := hrv.told
  rw [show runN scriptS = 5 from rfl, rund] at h1; exact h1
 obtain ⟨le, hle, e5⟩ := rune
 have hd0 : w2.ownsRow w1.heap.size 33 1 dv 5 (le.map (.int .i64) ++ [.int .i64 3]) := by
  have h1 := hrv.done
  rw [show runN scriptS = 5 from rfl, e5, List.map_append] at h1; exact h1
 have HB2 := Lib.hid (below_next HB1.out hb2)
 obtain ⟨gt, ct, rfl, hgt⟩ := own_one ht0 (by decide)
 obtain ⟨gd, cd, rfl, hgd⟩ := own_one hd0 (by decide)
 obtain ⟨ca, cc, rfl⟩ := hc0.vshape
 have Hc0 := Lib.hid (show RepsV (fun b => w1.heap.size ≤ b) w2 (.slice ca endL.length cc) endL from hc0)
 have T0 := Lib.hid (fun x (hx : Below w2.heap.size w2 x) => hgt x 0 _ hx rfl)
 have T1 := Lib.hid (fun x (hx : Below w2.heap.size w2 x) => hgt x 1 _ hx rfl)
 have T2 := Lib.hid (fun x (hx : Below w2.heap.size w2 x) => hgt x 2 _ hx rfl)
 have T3 := Lib.hid (fun x (hx : Below w2.heap.size w2 x) => hgt x 3 _ hx rfl)
 have T4 := Lib.hid (fun x (hx : Below w2.heap.size w2 x) => hgt x 4 _ hx rfl)
 have D4 := Lib.hid (fun x (hx : Below w2.heap.size w2 x) => hgd x 4 (.int .i64 3) hx (by rw [List.getElem?_append_right (by simp [hle])]; simp [hle]))
 clear hrv hc0 ht0 hd0 hgt hgd hb2 HR
 obtain ⟨T, hT, hT1, HTb0⟩ := cls_box w2 #[.slice ca endL.length cc] 66
 have hTb := hT.below
 have hTn := hT.next
 have c0 := fun x (hx : In T x) => HTb0 0 _ rfl x hx
 have HSh := Lib.hid (fun x (hx : In T x) => deskShow_any endL _ _ x (Hc0.out.below (hTb _ hx)) (HT.out _ (below_next HB2.out (hTb _ hx))))
 rw [ss.1, ss.2] at HSh
 have HDo := Lib.hid (fun x (hx : In T x) => deskDo_any endL ⟨2, 0, 0, 0, psh0⟩ _ (.slice none 0 0) (.slice none 0 0) _ (fun _ => True) x (Hc0.out.below (hTb _ hx)) ⟨StoreV.nil _ _ _ _ (by omega), MvsV.nil _ _ _ _ (by omega), small64 _ (by decide), small64 _ (by decide), small64 _ (by decide), small64 _ (by decide)⟩ (HT.out _ (below_next HB2.out (hTb _ hx))))
 rw [sd.1, sd.2.1] at HDo
 simp only [actV, show psh0.force = false from rfl] at HDo
 try simp only [Nat.add_zero] at c0
 have cx := c0 _ hT1
 go_wp2_with fail
 refine (HSh.out _ hT1).mono ?_
 rintro e w3 ⟨rfl, hb3⟩
 have hT3 := hTn _ _ hT1 hb3
 clear hb3 cx
 have cx := c0 _ hT3
 go_wp2_with fail
 refine (HDo.out _ hT3).mono ?_
 rintro e w4 ⟨v4, rfl, hO4, hb4⟩
 have hT4 := hTn _ _ hT3 hb4
 obtain ⟨F4, hO, _⟩ := hO4
 have hv4 := hO.any (by rw [sd.2.2.1]; decide)
 clear hO hb4
 obtain ⟨a4, n4, cap4, fr4, HN4, rfl, _, _, _, h44, _⟩ := hv4.open
 obtain rfl : n4 = 3 := HN4.out.trans sd.2.2.1
 obtain ⟨b4, off4, rfl, _, k0, k1, k2, k3, k4, k5, k6⟩ := h44 (by omega)
 have G4 := Lib.hid (fun x (hx : Below w4.heap.size w4 x) => show x.cell? ⟨b4, off4 + 2, none⟩ = some (.int .i64 2) from by have h1 := k2 0 x (by decide) hx; rw [sd.2.2.2] at h1; simpa using h1)
 clear h44 k0 k1 k2 k3 k4 k5 k6 hv4
 have hT5 := hT.alloc _ (.cells #[.slice (some ⟨b4, off4, none⟩) 3 cap4] 66) hT4
 have hD5 := heap_alloc_new w4 (.cells #[.slice (some ⟨b4, off4, none⟩) 3 cap4] 66)
 have hbA : Below w4.heap.size w4 (w4.alloc (.cells #[.slice (some ⟨b4, off4, none⟩) 3 cap4] 66)) := (Below.refl _ _).alloc (Nat.le_refl _) _
 have y0 := block_cell (j := 0) hD5 rfl
 have y1 := G4.out _ hbA
 have t0 := T0.out _ (hTb _ hT5)
 have t1 := T1.out _ (hTb _ hT5)
 have t2 := T2.out _ (hTb _ hT5)
 have t3 := T3.out _ (hTb _ hT5)
 have t4 := T4.out _ (hTb _ hT5)
 have d4 := D4.out _ (hTb _ hT5)
 have HE := Lib.hid (below_next HB2.out (hTb _ hT5))
 go_wp2_with fail
 go_ret
 exact ⟨rfl, HE.out⟩
end Go.Proofs.YtjdgpgfiomnjkaaGreatDoor
namespace Go.Proofs.YtjdgpgfiomnjkaaGreatDoor
open Go.RowKit
set_option linter.unusedVariables false
set_option linter.unusedSimpArgs false
theorem dofL_len {l : List Rep} {a : Ac} (hc : RightC l) : (dofL l a).length ≤ 3 := by
 unfold dofL
 by_cases h : actE l a = 0
 ·rw [if_pos h, (act_right hc h).len]; exact Nat.le_refl 3
 ·rw [if_neg h]; exact Nat.zero_le 3
end Go.Proofs.YtjdgpgfiomnjkaaGreatDoor
