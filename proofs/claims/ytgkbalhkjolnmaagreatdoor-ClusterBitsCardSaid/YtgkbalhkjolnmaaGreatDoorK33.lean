
/- Walks: the law ClusterBits. -/
import Derived.Test.YtgkbalhkjolnmaaGreatDoorK29
import Derived.Deep.DeepCutAuto
namespace Go.Proofs.YtgkbalhkjolnmaaGreatDoor
open Go.RowKit
set_option linter.unusedVariables false
set_option linter.unusedSimpArgs false
structure BitsL (l : List Rep) (p : Psh) (up late : Int) (pl : List Rep) (pd : Bool) : Prop where
 llen : l.length = 3
 len : pl.length = 3
 hup : 0 ≤ up ∧ up ≤ 7
 hlate : 0 ≤ late ∧ late ≤ 7
 same : ∀ i, i < 3 → (bitB up i = false ∨ bitB late i = true ∨ (rep l i).phase ≠ 0) → sameRep (rep pl i) (rep l i) = true
 oth : pushCE l p up (othTo up late 3) = 0 ∧ pushCL l p up (othTo up late 3) = pl ∧ pushCD l p up (othTo up late 3) = pd
theorem bitsL {l : List Rep} {p : Psh} {up late : Int} (h : pushCE l p up late = 0) : BitsL l p up late (pushCL l p up late) (pushCD l p up late) := by
 obtain ⟨hc, hr, h1, h2⟩ := pushC_zero h
 obtain ⟨_, u0, u1, l0, l1⟩ := push_zero hr
 refine ⟨hc.len, by rw [h1]; exact (push_right hc hr).len, ⟨u0, u1⟩, ⟨l0, l1⟩, fun i hi hn => ?_, oth_same h⟩
 rw [h1, pushRL_at hr hi, not_tak hn]
 exact (sameRep_iff _ _).2 rfl
theorem bit_cell {k : Nat} (hk : k < 3) : (#[Value.int .i64 1, Value.int .i64 2, Value.int .i64 4])[k]? = some (.int .i64 (2 ^ k : Int)) := by
 have h : k = 0 ∨ k = 1 ∨ k = 2 := by omega
 rcases h with rfl | rfl | rfl <;> rfl
set_option maxRecDepth 100000 in
set_option maxHeartbeats 32000000 in
theorem clusterBits_any (l : List Rep) (p : Psh) (up late : Int) (cv ov uv : Value) (S S1 : Nat → Prop) (w : World) (h : RepsV S w cv l) (hp : StoreV S1 w ov p.objects ∧ MvsV S1 w uv p.updates) (hup : I64 up) (hlt : I64 late) (ht : Tab w) :
  Calls Tryz.prog 5 #[.agg #[cv], pshV p ov uv, .int .i64 up, .int .i64 late] w fun e w' => e = .returned (.bool true) ∧ Below w.heap.size w w' := by
 have H := Lib.hid h
 have HP := Lib.hid hp
 have HTw := Lib.hid ht
 obtain ⟨ho, hu⟩ := hp
 obtain ⟨oap, ocp, rfl⟩ := ho.vshape
 obtain ⟨⟨uap, ucp⟩, rfl⟩ := hu.shape
 obtain ⟨a, cap, rfl⟩ := h.vshape
 obtain ⟨R, hR, hR1, HB0⟩ := cls_allocs w [.cells #[.slice a l.length cap] 24, .cells #[.slice oap p.objects.length ocp, .slice uap p.updates.length ucp, .bool p.force] 28]
 simp only [List.foldl] at hR1
 have hRb := hR.below
 have hRn := hR.next
 have c0 := fun x (hx : In R x) => block_cell (j := 0) (HB0 x hx 0 _ rfl) rfl
 have p0 := fun x (hx : In R x) => block_cell (j := 0) (HB0 x hx 1 _ rfl) rfl
 have p1 := fun x (hx : In R x) => block_cell (j := 1) (HB0 x hx 1 _ rfl) rfl
 have p2 := fun x (hx : In R x) => block_cell (j := 2) (HB0 x hx 1 _ rfl) rfl
 simp only [Nat.add_zero] at c0
 clear HB0
 have HPu := Lib.hid (fun x (hx : In R x) => cluPush_any l p up late _ _ _ _ _ x (H.out.below (hRb _ hx)) ⟨HP.out.1.below (hRb _ hx), HP.out.2.below (hRb _ hx)⟩ (HTw.out.below (hRb _ hx)))
 simp only [pshV] at HPu
 have cc := c0 _ hR1
 have r0 := p0 _ hR1
 have r1 := p1 _ hR1
 have r2 := p2 _ hR1
 clear h ho hu ht hup hlt
 simp only [pshV]
 by_cases hz : pushCE l p up late = 0
 case neg =>
  have hpl := (pushC_bad hz).1
  have hpd := (pushC_bad hz).2
  rw [hpl, hpd] at HPu
  obtain ⟨pl, hpl2⟩ : ∃ pl : List Rep, pl = [] := ⟨_, rfl⟩
  rw [← hpl2] at HPu
  have Hlp := Lib.hid (show pl.length * 120 ≤ 140737488351232 by rw [hpl2]; decide)
  have hl0 : pl.length = 0 := by rw [hpl2]; rfl
  have q1 : (pushCE l p up late != 0) = true := by simpa using hz
  have Hl0 := Lib.hid hl0
  clear hz hpl hpd hpl2 hl0
  generalize pushCE l p up late = ce at *
  go_enter Tryz.func5, Tryz.ntmps5
  go_wp2_with fail
  refine (HPu.out _ hR1).mono ?_
  rintro e w1 ⟨v1, rfl, ⟨F1, hO1, hF1⟩, hb1⟩
  obtain ⟨a1, c1, rfl⟩ := hO1.shape
  have hR2 := hRn _ _ hR1 hb1
  clear cc r0 r1 r2
  have Hv1 := Lib.hid (hO1.any Hlp.out)
  have hbA : Below w1.heap.size w1 (w1.alloc (.cells #[.slice a1 pl.length c1] 24)) := (Below.refl _ _).alloc (Nat.le_refl _) _
  have hRA := hR.alloc _ (.cells #[.slice a1 pl.length c1] 24) hR2
  have HA := Lib.hid (heap_alloc_new w1 (.cells #[.slice a1 pl.length c1] 24))
  have HvA := Lib.hid (Hv1.out.below hbA)
  clear hO1 hF1 hb1 hbA Hv1
  go_wp2_with fail
  refine (clusterBegun_any _ (HTw.out.below (hRb _ hRA))).mono ?_
  rintro e t0 ⟨rfl, hb2⟩
  have hR3 := hRn _ _ hRA hb2
  have HA2 := Lib.hid (blk_below HA.out hb2)
  have HvA2 := Lib.hid (HvA.out.below hb2)
  clear HA HvA hb2 hRA
  generalize w1.heap.size = DA at *
  have HE := Lib.hid (hRb _ hR3)
  go_wp2_with fail
  go_ret
  exact ⟨rfl, HE.out⟩
 case pos =>
  have HS := Lib.hid (bitsL hz)
  rw [hz] at HPu
  clear hz
  generalize pushCL l p up late = pl at *
  generalize pushCD l p up late = pd at *
  have Hlp := Lib.hid (show pl.length * 120 ≤ 140737488351232 by rw [HS.out.len]; decide)
  go_enter Tryz.func5, Tryz.ntmps5
  go_wp2_with fail
  refine (HPu.out _ hR1).mono ?_
  rintro e w1 ⟨v1, rfl, ⟨F1, hO1, hF1⟩, hb1⟩
  obtain ⟨a1, c1, rfl⟩ := hO1.shape
  have hR2 := hRn _ _ hR1 hb1
  clear cc r0 r1 r2
  have Hv1 := Lib.hid (hO1.any Hlp.out)
  have hbA : Below w1.heap.size w1 (w1.alloc (.cells #[.slice a1 pl.length c1] 24)) := (Below.refl _ _).alloc (Nat.le_refl _) _
  have hRA := hR.alloc _ (.cells #[.slice a1 pl.length c1] 24) hR2
  have HA := Lib.hid (heap_alloc_new w1 (.cells #[.slice a1 pl.length c1] 24))
  have HvA := Lib.hid (Hv1.out.below hbA)
  clear hO1 hF1 hb1 hbA Hv1
  go_wp2_with fail
  refine (clusterBegun_any _ (HTw.out.below (hRb _ hRA))).mono ?_
  rintro e t0 ⟨rfl, hb2⟩
  have hR3 := hRn _ _ hRA hb2
  have HA2 := Lib.hid (blk_below HA.out hb2)
  have HvA2 := Lib.hid (HvA.out.below hb2)
  clear HA HvA hb2 hRA
  generalize w1.heap.size = DA at *
  have HL3 := Lib.hid HS.out.llen
  have HP3 := Lib.hid HS.out.len
  rw [HL3.out] at c0
  rw [HP3.out] at HA2
  obtain ⟨ax, nx, capx, fr, HNx, ex, _, _, _, h4, h5⟩ := H.out.open
  obtain rfl : nx = 3 := HNx.out.trans HL3.out
  rw [HL3.out] at ex
  cases ex
  obtain ⟨b0, off0, rfl, _, k0, k1, k2, k3, k4, k5, k6⟩ := h4 (by omega)
  have Hk := Lib.hid (And.intro k0 (And.intro k1 (And.intro k2 (And.intro k3 (And.intro k4 (And.intro k5 k6))))))
  have H5 := Lib.hid h5
  clear k0 k1 k2 k3 k4 k5 k6 h4 h5 HNx
  obtain ⟨ay, ny, capy, fa, HNy, ey, _, _, _, h4, h5⟩ := HvA2.out.open
  obtain rfl : ny = 3 := HNy.out.trans HP3.out
  rw [HP3.out] at ey
  cases ey
  obtain ⟨b1, off1, rfl, _, k0, k1, k2, k3, k4, k5, k6⟩ := h4 (by omega)
  have Ha := Lib.hid (And.intro k0 (And.intro k1 (And.intro k2 (And.intro k3 (And.intro k4 (And.intro k5 k6))))))
  have H6 := Lib.hid h5
  clear k0 k1 k2 k3 k4 k5 k6 h4 h5 HNy
  obtain ⟨T, hT, hT1, _⟩ := cls_plain t0
  have hTb := hT.below
  have hTn := hT.next
  have hTR : ∀ x, In T x → In R x := fun x hx => hRn _ _ hR3 (hTb _ hx)
  have HBt := Lib.hid (fun x (hx : In T x) => hRb _ (hTR _ hx))
  have tc := fun x (hx : In T x) => c0 x (hTR _ hx)
  have tA := fun x (hx : In T x) => below_cell (hTb _ hx) (block_cell (j := 0) HA2.out rfl)
  have aa := tA _ hT1
  have cc := tc _ hT1
  have HuB := Lib.hid HS.out.hup
  have HlB := Lib.hid HS.out.hlate
  go_wp2_with fail
  go_loopw [12] (fun i wr => ∃ k : Nat, k ≤ 3 ∧ i = .int .i64 k ∧ In T wr) (fun i _ => 3 - (intOf i).toNat)
  case atStart => exact ⟨0, by omega, rfl, hT1⟩
  case round =>
   obtain ⟨k, hk, rfl, hTr⟩ := hrel
   clear aa cc
   obtain ⟨wo, rfl⟩ : ∃ wo : World, wo = wr := ⟨_, rfl⟩
   have cc := tc _ hTr
   by_cases hlt : k < 3
   case pos =>
    have hi1 : (0 : Int) ≤ (k : Int) := by omega
    have hi2 : (k : Int) < 3 := by omega
    have Hsm := Lib.hid (HS.out.same k hlt)
    obtain ⟨Q, hQ, hQ1, _⟩ := cls_plain wo
    have hQb := hQ.below
    have hQn := hQ.next
    have HQT := Lib.hid (fun x (hx : In Q x) => hTn _ _ hTr (hQb _ hx))
    have d0 := fun x (hx : In Q x) => tc _ (HQT.out x hx)
    have d1 := fun x (hx : In Q x) => tA _ (HQT.out x hx)
    have e0 := fun x (hx : In Q x) => Ha.out.1 k x hlt (hTb _ (HQT.out x hx))
    have g0 := fun x (hx : In Q x) => Hk.out.1 k x hlt (HBt.out _ (HQT.out x hx))
    have e1 := fun x (hx : In Q x) => Ha.out.2.1 k x hlt (hTb _ (HQT.out x hx))
    have g1 := fun x (hx : In Q x) => Hk.out.2.1 k x hlt (HBt.out _ (HQT.out x hx))
    have e2 := fun x (hx : In Q x) => Ha.out.2.2.1 k x hlt (hTb _ (HQT.out x hx))
    have g2 := fun x (hx : In Q x) => Hk.out.2.2.1 k x hlt (HBt.out _ (HQT.out x hx))
    have e3 := fun x (hx : In Q x) => Ha.out.2.2.2.1 k x hlt (hTb _ (HQT.out x hx))
    have g3 := fun x (hx : In Q x) => Hk.out.2.2.2.1 k x hlt (HBt.out _ (HQT.out x hx))
    have e4 := fun x (hx : In Q x) => Ha.out.2.2.2.2.1 k x hlt (hTb _ (HQT.out x hx))
    have g4 := fun x (hx : In Q x) => Hk.out.2.2.2.2.1 k x hlt (HBt.out _ (HQT.out x hx))
    have e5 := fun x (hx : In Q x) => Ha.out.2.2.2.2.2.1 k x hlt (hTb _ (HQT.out x hx))
    have g5 := fun x (hx : In Q x) => Hk.out.2.2.2.2.2.1 k x hlt (HBt.out _ (HQT.out x hx))
    have e6 := fun x (hx : In Q x) => Ha.out.2.2.2.2.2.2 k x hlt (hTb _ (HQT.out x hx))
    have g6 := fun x (hx : In Q x) => Hk.out.2.2.2.2.2.2 k x hlt (HBt.out _ (HQT.out x hx))
    have HUs := Lib.hid (fun x (_ : In Q x) => isSet_any up k x HuB.out hlt)
    have HLs := Lib.hid (fun x (_ : In Q x) => isSet_any late k x HlB.out hlt)
    have HSr := Lib.hid (fun x (hx : In Q x) => sameReplica_any (rep pl k) (rep l k) _ _ _ _ _ _ _ _ _ _ x ((H6.out k hlt).below (hTb _ (HQT.out x hx))) ((H5.out k hlt).below (HBt.out _ (HQT.out x hx))))
    simp only [repV] at HSr
    cases hbu : bitB up k
    case false =>
     rw [hbu] at HUs
     rw [Hsm.out (.inl hbu)] at HSr
     go_upto_region 11 with fail
     clear cc
     refine wp_region_held (S := In Q) (by kernel_rfl) ?_
     change wpAnyH _ _ _ _ _ _ _ _ (World.drew _)
     have hC0 := hQ.drew _ hQ1
     generalize hx0 : wo.drew = x0 at hC0 ⊢
     clear hx0
     refine wpAnyH_take (i := 0) (v := .int .i64 up) rfl (by kernel_rfl) (by kernel_rfl) (by kernel_rfl) (fun _ _ _ h => h) (Or.inl ⟨by rfl, fun w hSw => ?_⟩) hC0 ?_
     ·go_simp
     simp only [Act.put, List.getElem_toArray, List.getElem_cons_zero, List.getElem_cons_succ, List.setIfInBounds_toArray, List.set_cons_zero, List.set_cons_succ]
     refine wpAnyH_take (i := 1) (v := .int .i64 (k : Int)) rfl (by kernel_rfl) (by kernel_rfl) (by kernel_rfl) (fun _ _ _ h => h) (Or.inl ⟨by rfl, fun w hSw => ?_⟩) hC0 ?_
     ·go_simp
     simp only [Act.put, List.getElem_toArray, List.getElem_cons_zero, List.getElem_cons_succ, List.setIfInBounds_toArray, List.set_cons_zero, List.set_cons_succ]
     refine wpAnyH_all (rs := [2]) (by kernel_rfl) (by simp) (fun j hj => ?_)
     obtain rfl : j = 2 := by simpa using hj
     refine Or.inl ?_
     go_wp2_with fail
     refine (HUs.out _ hC0).mono ?_
     rintro e x1 ⟨rfl, hb0⟩
     have hC1 := hQn _ _ hC0 (hb0.mono (by first | exact Nat.le_refl _ | omega))
     clear hb0
     go_simp
     refine wpAnyH_take (i := 3) (v := .bool true) rfl (by kernel_rfl) (by kernel_rfl) (by kernel_rfl) (fun _ _ _ h => h) (Or.inl ⟨by rfl, fun w hSw => ?_⟩) hC1 ?_
     ·go_simp
     simp only [Act.put, List.getElem_toArray, List.getElem_cons_zero, List.getElem_cons_succ, List.setIfInBounds_toArray, List.set_cons_zero, List.set_cons_succ]
     refine wpAnyH_take (i := 4) (v := .bool true) rfl (by kernel_rfl) (by kernel_rfl) (by kernel_rfl) (fun _ _ _ h => h) (Or.inl ⟨by rfl, fun w hSw => ?_⟩) hC1 ?_
     ·go_simp
     simp only [Act.put, List.getElem_toArray, List.getElem_cons_zero, List.getElem_cons_succ, List.setIfInBounds_toArray, List.set_cons_zero, List.set_cons_succ]
     refine wpAnyH_take (i := 5) (v := undef) rfl (by kernel_rfl) (by kernel_rfl) (by kernel_rfl) (fun _ _ _ h => h) (Or.inr ⟨by rfl, rfl⟩) hC1 ?_
     simp only [Act.put, List.getElem_toArray, List.getElem_cons_zero, List.getElem_cons_succ, List.setIfInBounds_toArray, List.set_cons_zero, List.set_cons_succ]
     refine wpAnyH_take (i := 6) (v := undef) rfl (by kernel_rfl) (by kernel_rfl) (by kernel_rfl) (fun _ _ _ h => h) (Or.inr ⟨by rfl, rfl⟩) hC1 ?_
     simp only [Act.put, List.getElem_toArray, List.getElem_cons_zero, List.getElem_cons_succ, List.setIfInBounds_toArray, List.set_cons_zero, List.set_cons_succ]
     refine wpAnyH_take (i := 7) (v := undef) rfl (by kernel_rfl) (by kernel_rfl) (by kernel_rfl) (fun _ _ _ h => h) (Or.inr ⟨by rfl, rfl⟩) hC1 ?_
     simp only [Act.put, List.getElem_toArray, List.getElem_cons_zero, List.getElem_cons_succ, List.setIfInBounds_toArray, List.set_cons_zero, List.set_cons_succ]
     refine wpAnyH_take (i := 8) (v := .bool true) rfl (by kernel_rfl) (by kernel_rfl) (by kernel_rfl) (fun _ _ _ h => h) (Or.inl ⟨by rfl, fun w hSw => ?_⟩) hC1 ?_
     ·go_simp
     simp only [Act.put, List.getElem_toArray, List.getElem_cons_zero, List.getElem_cons_succ, List.setIfInBounds_toArray, List.set_cons_zero, List.set_cons_succ]
     refine wpAnyH_take (i := 9) (v := .bool true) rfl (by kernel_rfl) (by kernel_rfl) (by kernel_rfl) (fun _ _ _ h => h) (Or.inl ⟨by rfl, fun w hSw => ?_⟩) hC1 ?_
     ·go_simp
     simp only [Act.put, List.getElem_toArray, List.getElem_cons_zero, List.getElem_cons_succ, List.setIfInBounds_toArray, List.set_cons_zero, List.set_cons_succ]
     refine wpAnyH_take (i := 10) (v := undef) rfl (by kernel_rfl) (by kernel_rfl) (by kernel_rfl) (fun _ _ _ h => h) (Or.inr ⟨by rfl, rfl⟩) hC1 ?_
     simp only [Act.put, List.getElem_toArray, List.getElem_cons_zero, List.getElem_cons_succ, List.setIfInBounds_toArray, List.set_cons_zero, List.set_cons_succ]
     refine wpAnyH_take (i := 11) (v := undef) rfl (by kernel_rfl) (by kernel_rfl) (by kernel_rfl) (fun _ _ _ h => h) (Or.inr ⟨by rfl, rfl⟩) hC1 ?_
     simp only [Act.put, List.getElem_toArray, List.getElem_cons_zero, List.getElem_cons_succ, List.setIfInBounds_toArray, List.set_cons_zero, List.set_cons_succ]
     refine wpAnyH_take (i := 12) (v := undef) rfl (by kernel_rfl) (by kernel_rfl) (by kernel_rfl) (fun _ _ _ h => h) (Or.inr ⟨by rfl, rfl⟩) hC1 ?_
     simp only [Act.put, List.getElem_toArray, List.getElem_cons_zero, List.getElem_cons_succ, List.setIfInBounds_toArray, List.set_cons_zero, List.set_cons_succ]
     refine wpAnyH_take (i := 13) (v := undef) rfl (by kernel_rfl) (by kernel_rfl) (by kernel_rfl) (fun _ _ _ h => h) (Or.inr ⟨by rfl, rfl⟩) hC1 ?_
     simp only [Act.put, List.getElem_toArray, List.getElem_cons_zero, List.getElem_cons_succ, List.setIfInBounds_toArray, List.set_cons_zero, List.set_cons_succ]
     refine wpAnyH_take (i := 14) (v := undef) rfl (by kernel_rfl) (by kernel_rfl) (by kernel_rfl) (fun _ _ _ h => h) (Or.inr ⟨by rfl, rfl⟩) hC1 ?_
     simp only [Act.put, List.getElem_toArray, List.getElem_cons_zero, List.getElem_cons_succ, List.setIfInBounds_toArray, List.set_cons_zero, List.set_cons_succ]
     refine wpAnyH_take (i := 15) (v := undef) rfl (by kernel_rfl) (by kernel_rfl) (by kernel_rfl) (fun _ _ _ h => h) (Or.inr ⟨by rfl, rfl⟩) hC1 ?_
     simp only [Act.put, List.getElem_toArray, List.getElem_cons_zero, List.getElem_cons_succ, List.setIfInBounds_toArray, List.set_cons_zero, List.set_cons_succ]
     refine wpAnyH_take (i := 16) (v := undef) rfl (by kernel_rfl) (by kernel_rfl) (by kernel_rfl) (fun _ _ _ h => h) (Or.inr ⟨by rfl, rfl⟩) hC1 ?_
     simp only [Act.put, List.getElem_toArray, List.getElem_cons_zero, List.getElem_cons_succ, List.setIfInBounds_toArray, List.set_cons_zero, List.set_cons_succ]
     refine wpAnyH_take (i := 17) (v := .bool true) rfl (by kernel_rfl) (by kernel_rfl) (by kernel_rfl) (fun _ _ _ h => h) (Or.inl ⟨by rfl, fun w hSw => ?_⟩) hC1 ?_
     ·go_simp
     simp only [Act.put, List.getElem_toArray, List.getElem_cons_zero, List.getElem_cons_succ, List.setIfInBounds_toArray, List.set_cons_zero, List.set_cons_succ]
     refine wpAnyH_take (i := 18) (v := .bool true) rfl (by kernel_rfl) (by kernel_rfl) (by kernel_rfl) (fun _ _ _ h => h) (Or.inl ⟨by rfl, fun w hSw => ?_⟩) hC1 ?_
     ·go_simp
     simp only [Act.put, List.getElem_toArray, List.getElem_cons_zero, List.getElem_cons_succ, List.setIfInBounds_toArray, List.set_cons_zero, List.set_cons_succ]
     refine wpAnyH_take (i := 19) (v := .pointer (some ⟨DA, 0, none⟩)) rfl (by kernel_rfl) (by kernel_rfl) (by kernel_rfl) (fun _ _ _ h => h) (Or.inl ⟨by rfl, fun w hSw => ?_⟩) hC1 ?_
     ·go_simp
     simp only [Act.put, List.getElem_toArray, List.getElem_cons_zero, List.getElem_cons_succ, List.setIfInBounds_toArray, List.set_cons_zero, List.set_cons_succ]
     refine wpAnyH_take (i := 20) (v := .slice (some ⟨b1, off1, none⟩) 3 c1) rfl (by kernel_rfl) (by kernel_rfl) (by kernel_rfl) (fun _ _ _ h => h) (Or.inl ⟨by rfl, fun w hSw => ?_⟩) hC1 ?_
     ·have yy := d1 _ hSw; go_simp
     simp only [Act.put, List.getElem_toArray, List.getElem_cons_zero, List.getElem_cons_succ, List.setIfInBounds_toArray, List.set_cons_zero, List.set_cons_succ]
     refine wpAnyH_take (i := 21) (v := .int .i64 (k : Int)) rfl (by kernel_rfl) (by kernel_rfl) (by kernel_rfl) (fun _ _ _ h => h) (Or.inl ⟨by rfl, fun w hSw => ?_⟩) hC1 ?_
     ·go_simp
     simp only [Act.put, List.getElem_toArray, List.getElem_cons_zero, List.getElem_cons_succ, List.setIfInBounds_toArray, List.set_cons_zero, List.set_cons_succ]
     refine wpAnyH_take (i := 22) (v := .pointer (some ⟨b1, off1 + k * 7, none⟩)) rfl (by kernel_rfl) (by kernel_rfl) (by kernel_rfl) (fun _ _ _ h => h) (Or.inl ⟨by rfl, fun w hSw => ?_⟩) hC1 ?_
     ·go_simp
     simp only [Act.put, List.getElem_toArray, List.getElem_cons_zero, List.getElem_cons_succ, List.setIfInBounds_toArray, List.set_cons_zero, List.set_cons_succ]
     refine wpAnyH_take (i := 23) (v := .agg #[.slice (fa k).sa (rep pl k).store.length (fa k).sc, .slice (fa k).ra (rep pl k).refs.length (fa k).rc, .int .i64 (rep pl k).gen, .int .i64 (rep pl k).phase, .slice (fa k).oa (rep pl k).pend.objects.length (fa k).oc, .slice (fa k).ua (rep pl k).pend.updates.length (fa k).uc, .bool (rep pl k).pend.force]) rfl (by kernel_rfl) (by kernel_rfl) (by kernel_rfl) (fun _ _ _ h => h) (Or.inl ⟨by rfl, fun w hSw => ?_⟩) hC1 ?_
     ·have y0 := e0 _ hSw; have y1 := e1 _ hSw; have y2 := e2 _ hSw; have y3 := e3 _ hSw; have y4 := e4 _ hSw; have y5 := e5 _ hSw; have y6 := e6 _ hSw; go_simp
     simp only [Act.put, List.getElem_toArray, List.getElem_cons_zero, List.getElem_cons_succ, List.setIfInBounds_toArray, List.set_cons_zero, List.set_cons_succ]
     refine wpAnyH_take (i := 24) (v := .pointer (some ⟨w.heap.size, 0, none⟩)) rfl (by kernel_rfl) (by kernel_rfl) (by kernel_rfl) (fun _ _ _ h => h) (Or.inl ⟨by rfl, fun w hSw => ?_⟩) hC1 ?_
     ·go_simp
     simp only [Act.put, List.getElem_toArray, List.getElem_cons_zero, List.getElem_cons_succ, List.setIfInBounds_toArray, List.set_cons_zero, List.set_cons_succ]
     refine wpAnyH_take (i := 25) (v := .slice (some ⟨b0, off0, none⟩) 3 cap) rfl (by kernel_rfl) (by kernel_rfl) (by kernel_rfl) (fun _ _ _ h => h) (Or.inl ⟨by rfl, fun w hSw => ?_⟩) hC1 ?_
     ·have yy := d0 _ hSw; go_simp
     simp only [Act.put, List.getElem_toArray, List.getElem_cons_zero, List.getElem_cons_succ, List.setIfInBounds_toArray, List.set_cons_zero, List.set_cons_succ]
     refine wpAnyH_take (i := 26) (v := .int .i64 (k : Int)) rfl (by kernel_rfl) (by kernel_rfl) (by kernel_rfl) (fun _ _ _ h => h) (Or.inl ⟨by rfl, fun w hSw => ?_⟩) hC1 ?_
     ·go_simp
     simp only [Act.put, List.getElem_toArray, List.getElem_cons_zero, List.getElem_cons_succ, List.setIfInBounds_toArray, List.set_cons_zero, List.set_cons_succ]
     refine wpAnyH_take (i := 27) (v := .pointer (some ⟨b0, off0 + k * 7, none⟩)) rfl (by kernel_rfl) (by kernel_rfl) (by kernel_rfl) (fun _ _ _ h => h) (Or.inl ⟨by rfl, fun w hSw => ?_⟩) hC1 ?_
     ·go_simp
     simp only [Act.put, List.getElem_toArray, List.getElem_cons_zero, List.getElem_cons_succ, List.setIfInBounds_toArray, List.set_cons_zero, List.set_cons_succ]
     refine wpAnyH_take (i := 28) (v := .agg #[.slice (fr k).sa (rep l k).store.length (fr k).sc, .slice (fr k).ra (rep l k).refs.length (fr k).rc, .int .i64 (rep l k).gen, .int .i64 (rep l k).phase, .slice (fr k).oa (rep l k).pend.objects.length (fr k).oc, .slice (fr k).ua (rep l k).pend.updates.length (fr k).uc, .bool (rep l k).pend.force]) rfl (by kernel_rfl) (by kernel_rfl) (by kernel_rfl) (fun _ _ _ h => h) (Or.inl ⟨by rfl, fun w hSw => ?_⟩) hC1 ?_
     ·have y0 := g0 _ hSw; have y1 := g1 _ hSw; have y2 := g2 _ hSw; have y3 := g3 _ hSw; have y4 := g4 _ hSw; have y5 := g5 _ hSw; have y6 := g6 _ hSw; go_simp
     simp only [Act.put, List.getElem_toArray, List.getElem_cons_zero, List.getElem_cons_succ, List.setIfInBounds_toArray, List.set_cons_zero, List.set_cons_succ]
     refine wpAnyH_all (rs := [29]) (by kernel_rfl) (by simp) (fun j hj => ?_)
     obtain rfl : j = 29 := by simpa using hj
     refine Or.inl ?_
     go_wp2_with fail
     refine (HSr.out _ hC1).mono ?_
     rintro e x2 ⟨rfl, hb0⟩
     have hC2 := hQn _ _ hC1 (hb0.mono (by first | exact Nat.le_refl _ | omega))
     clear hb0
     go_simp
     refine wpAnyH_take (i := 30) (v := .bool false) rfl (by kernel_rfl) (by kernel_rfl) (by kernel_rfl) (fun _ _ _ h => h) (Or.inl ⟨by rfl, fun w hSw => ?_⟩) hC2 ?_
     ·go_simp
     simp only [Act.put, List.getElem_toArray, List.getElem_cons_zero, List.getElem_cons_succ, List.setIfInBounds_toArray, List.set_cons_zero, List.set_cons_succ]
     refine wpAnyH_take (i := 31) (v := .bool false) rfl (by kernel_rfl) (by kernel_rfl) (by kernel_rfl) (fun _ _ _ h => h) (Or.inl ⟨by rfl, fun w hSw => ?_⟩) hC2 ?_
     ·go_simp
     simp only [Act.put, List.getElem_toArray, List.getElem_cons_zero, List.getElem_cons_succ, List.setIfInBounds_toArray, List.set_cons_zero, List.set_cons_succ]
     refine wpAnyH_done (by kernel_rfl) ?_ _
     have hTe := HQT.out _ hC2
     go_wp2_with fail
     go_roundw
     case rel => exact ⟨k + 1, by omega, by go_num, hTe⟩
     case measure => simp [intOf]; omega
    case true =>
     rw [hbu] at HUs
     cases hbl : bitB late k
     case true =>
      rw [hbl] at HLs
      rw [Hsm.out (.inr (.inl hbl))] at HSr
      go_upto_region 11 with fail
      clear cc
      refine wp_region_held (S := In Q) (by kernel_rfl) ?_
      change wpAnyH _ _ _ _ _ _ _ _ (World.drew _)
      have hC0 := hQ.drew _ hQ1
      generalize hx0 : wo.drew = x0 at hC0 ⊢
      clear hx0
      refine wpAnyH_take (i := 0) (v := .int .i64 up) rfl (by kernel_rfl) (by kernel_rfl) (by kernel_rfl) (fun _ _ _ h => h) (Or.inl ⟨by rfl, fun w hSw => ?_⟩) hC0 ?_
      ·go_simp
      simp only [Act.put, List.getElem_toArray, List.getElem_cons_zero, List.getElem_cons_succ, List.setIfInBounds_toArray, List.set_cons_zero, List.set_cons_succ]
      refine wpAnyH_take (i := 1) (v := .int .i64 (k : Int)) rfl (by kernel_rfl) (by kernel_rfl) (by kernel_rfl) (fun _ _ _ h => h) (Or.inl ⟨by rfl, fun w hSw => ?_⟩) hC0 ?_
      ·go_simp
      simp only [Act.put, List.getElem_toArray, List.getElem_cons_zero, List.getElem_cons_succ, List.setIfInBounds_toArray, List.set_cons_zero, List.set_cons_succ]
      refine wpAnyH_all (rs := [2]) (by kernel_rfl) (by simp) (fun j hj => ?_)
      obtain rfl : j = 2 := by simpa using hj
      refine Or.inl ?_
      go_wp2_with fail
      refine (HUs.out _ hC0).mono ?_
      rintro e x1 ⟨rfl, hb0⟩
      have hC1 := hQn _ _ hC0 (hb0.mono (by first | exact Nat.le_refl _ | omega))
      clear hb0
      go_simp
      refine wpAnyH_take (i := 3) (v := .bool false) rfl (by kernel_rfl) (by kernel_rfl) (by kernel_rfl) (fun _ _ _ h => h) (Or.inl ⟨by rfl, fun w hSw => ?_⟩) hC1 ?_
      ·go_simp
      simp only [Act.put, List.getElem_toArray, List.getElem_cons_zero, List.getElem_cons_succ, List.setIfInBounds_toArray, List.set_cons_zero, List.set_cons_succ]
      refine wpAnyH_take (i := 4) (v := .bool false) rfl (by kernel_rfl) (by kernel_rfl) (by kernel_rfl) (fun _ _ _ h => h) (Or.inl ⟨by rfl, fun w hSw => ?_⟩) hC1 ?_
      ·go_simp
      simp only [Act.put, List.getElem_toArray, List.getElem_cons_zero, List.getElem_cons_succ, List.setIfInBounds_toArray, List.set_cons_zero, List.set_cons_succ]
      refine wpAnyH_take (i := 5) (v := .int .i64 late) rfl (by kernel_rfl) (by kernel_rfl) (by kernel_rfl) (fun _ _ _ h => h) (Or.inl ⟨by rfl, fun w hSw => ?_⟩) hC1 ?_
      ·go_simp
      simp only [Act.put, List.getElem_toArray, List.getElem_cons_zero, List.getElem_cons_succ, List.setIfInBounds_toArray, List.set_cons_zero, List.set_cons_succ]
      refine wpAnyH_take (i := 6) (v := .int .i64 (k : Int)) rfl (by kernel_rfl) (by kernel_rfl) (by kernel_rfl) (fun _ _ _ h => h) (Or.inl ⟨by rfl, fun w hSw => ?_⟩) hC1 ?_
      ·go_simp
      simp only [Act.put, List.getElem_toArray, List.getElem_cons_zero, List.getElem_cons_succ, List.setIfInBounds_toArray, List.set_cons_zero, List.set_cons_succ]
      refine wpAnyH_all (rs := [7]) (by kernel_rfl) (by simp) (fun j hj => ?_)
      obtain rfl : j = 7 := by simpa using hj
      refine Or.inl ?_
      go_wp2_with fail
      refine (HLs.out _ hC1).mono ?_
      rintro e x2 ⟨rfl, hb0⟩
      have hC2 := hQn _ _ hC1 (hb0.mono (by first | exact Nat.le_refl _ | omega))
      clear hb0
      go_simp
      refine wpAnyH_take (i := 8) (v := .bool true) rfl (by kernel_rfl) (by kernel_rfl) (by kernel_rfl) (fun _ _ _ h => h) (Or.inl ⟨by rfl, fun w hSw => ?_⟩) hC2 ?_
      ·go_simp
      simp only [Act.put, List.getElem_toArray, List.getElem_cons_zero, List.getElem_cons_succ, List.setIfInBounds_toArray, List.set_cons_zero, List.set_cons_succ]
      refine wpAnyH_take (i := 9) (v := .bool true) rfl (by kernel_rfl) (by kernel_rfl) (by kernel_rfl) (fun _ _ _ h => h) (Or.inl ⟨by rfl, fun w hSw => ?_⟩) hC2 ?_
      ·go_simp
      simp only [Act.put, List.getElem_toArray, List.getElem_cons_zero, List.getElem_cons_succ, List.setIfInBounds_toArray, List.set_cons_zero, List.set_cons_succ]
      refine wpAnyH_take (i := 10) (v := undef) rfl (by kernel_rfl) (by kernel_rfl) (by kernel_rfl) (fun _ _ _ h => h) (Or.inr ⟨by rfl, rfl⟩) hC2 ?_
      simp only [Act.put, List.getElem_toArray, List.getElem_cons_zero, List.getElem_cons_succ, List.setIfInBounds_toArray, List.set_cons_zero, List.set_cons_succ]
      refine wpAnyH_take (i := 11) (v := undef) rfl (by kernel_rfl) (by kernel_rfl) (by kernel_rfl) (fun _ _ _ h => h) (Or.inr ⟨by rfl, rfl⟩) hC2 ?_
      simp only [Act.put, List.getElem_toArray, List.getElem_cons_zero, List.getElem_cons_succ, List.setIfInBounds_toArray, List.set_cons_zero, List.set_cons_succ]
      refine wpAnyH_take (i := 12) (v := undef) rfl (by kernel_rfl) (by kernel_rfl) (by kernel_rfl) (fun _ _ _ h => h) (Or.inr ⟨by rfl, rfl⟩) hC2 ?_
      simp only [Act.put, List.getElem_toArray, List.getElem_cons_zero, List.getElem_cons_succ, List.setIfInBounds_toArray, List.set_cons_zero, List.set_cons_succ]
      refine wpAnyH_take (i := 13) (v := undef) rfl (by kernel_rfl) (by kernel_rfl) (by kernel_rfl) (fun _ _ _ h => h) (Or.inr ⟨by rfl, rfl⟩) hC2 ?_
      simp only [Act.put, List.getElem_toArray, List.getElem_cons_zero, List.getElem_cons_succ, List.setIfInBounds_toArray, List.set_cons_zero, List.set_cons_succ]
      refine wpAnyH_take (i := 14) (v := undef) rfl (by kernel_rfl) (by kernel_rfl) (by kernel_rfl) (fun _ _ _ h => h) (Or.inr ⟨by rfl, rfl⟩) hC2 ?_
      simp only [Act.put, List.getElem_toArray, List.getElem_cons_zero, List.getElem_cons_succ, List.setIfInBounds_toArray, List.set_cons_zero, List.set_cons_succ]
      refine wpAnyH_take (i := 15) (v := undef) rfl (by kernel_rfl) (by kernel_rfl) (by kernel_rfl) (fun _ _ _ h => h) (Or.inr ⟨by rfl, rfl⟩) hC2 ?_
      simp only [Act.put, List.getElem_toArray, List.getElem_cons_zero, List.getElem_cons_succ, List.setIfInBounds_toArray, List.set_cons_zero, List.set_cons_succ]
      refine wpAnyH_take (i := 16) (v := undef) rfl (by kernel_rfl) (by kernel_rfl) (by kernel_rfl) (fun _ _ _ h => h) (Or.inr ⟨by rfl, rfl⟩) hC2 ?_
      simp only [Act.put, List.getElem_toArray, List.getElem_cons_zero, List.getElem_cons_succ, List.setIfInBounds_toArray, List.set_cons_zero, List.set_cons_succ]
      refine wpAnyH_take (i := 17) (v := .bool true) rfl (by kernel_rfl) (by kernel_rfl) (by kernel_rfl) (fun _ _ _ h => h) (Or.inl ⟨by rfl, fun w hSw => ?_⟩) hC2 ?_
      ·go_simp
      simp only [Act.put, List.getElem_toArray, List.getElem_cons_zero, List.getElem_cons_succ, List.setIfInBounds_toArray, List.set_cons_zero, List.set_cons_succ]
      refine wpAnyH_take (i := 18) (v := .bool true) rfl (by kernel_rfl) (by kernel_rfl) (by kernel_rfl) (fun _ _ _ h => h) (Or.inl ⟨by rfl, fun w hSw => ?_⟩) hC2 ?_
      ·go_simp
      simp only [Act.put, List.getElem_toArray, List.getElem_cons_zero, List.getElem_cons_succ, List.setIfInBounds_toArray, List.set_cons_zero, List.set_cons_succ]
      refine wpAnyH_take (i := 19) (v := .pointer (some ⟨DA, 0, none⟩)) rfl (by kernel_rfl) (by kernel_rfl) (by kernel_rfl) (fun _ _ _ h => h) (Or.inl ⟨by rfl, fun w hSw => ?_⟩) hC2 ?_
      ·go_simp
      simp only [Act.put, List.getElem_toArray, List.getElem_cons_zero, List.getElem_cons_succ, List.setIfInBounds_toArray, List.set_cons_zero, List.set_cons_succ]
      refine wpAnyH_take (i := 20) (v := .slice (some ⟨b1, off1, none⟩) 3 c1) rfl (by kernel_rfl) (by kernel_rfl) (by kernel_rfl) (fun _ _ _ h => h) (Or.inl ⟨by rfl, fun w hSw => ?_⟩) hC2 ?_
      ·have yy := d1 _ hSw; go_simp
      simp only [Act.put, List.getElem_toArray, List.getElem_cons_zero, List.getElem_cons_succ, List.setIfInBounds_toArray, List.set_cons_zero, List.set_cons_succ]
      refine wpAnyH_take (i := 21) (v := .int .i64 (k : Int)) rfl (by kernel_rfl) (by kernel_rfl) (by kernel_rfl) (fun _ _ _ h => h) (Or.inl ⟨by rfl, fun w hSw => ?_⟩) hC2 ?_
      ·go_simp
      simp only [Act.put, List.getElem_toArray, List.getElem_cons_zero, List.getElem_cons_succ, List.setIfInBounds_toArray, List.set_cons_zero, List.set_cons_succ]
      refine wpAnyH_take (i := 22) (v := .pointer (some ⟨b1, off1 + k * 7, none⟩)) rfl (by kernel_rfl) (by kernel_rfl) (by kernel_rfl) (fun _ _ _ h => h) (Or.inl ⟨by rfl, fun w hSw => ?_⟩) hC2 ?_
      ·go_simp
      simp only [Act.put, List.getElem_toArray, List.getElem_cons_zero, List.getElem_cons_succ, List.setIfInBounds_toArray, List.set_cons_zero, List.set_cons_succ]
      refine wpAnyH_take (i := 23) (v := .agg #[.slice (fa k).sa (rep pl k).store.length (fa k).sc, .slice (fa k).ra (rep pl k).refs.length (fa k).rc, .int .i64 (rep pl k).gen, .int .i64 (rep pl k).phase, .slice (fa k).oa (rep pl k).pend.objects.length (fa k).oc, .slice (fa k).ua (rep pl k).pend.updates.length (fa k).uc, .bool (rep pl k).pend.force]) rfl (by kernel_rfl) (by kernel_rfl) (by kernel_rfl) (fun _ _ _ h => h) (Or.inl ⟨by rfl, fun w hSw => ?_⟩) hC2 ?_
      ·have y0 := e0 _ hSw; have y1 := e1 _ hSw; have y2 := e2 _ hSw; have y3 := e3 _ hSw; have y4 := e4 _ hSw; have y5 := e5 _ hSw; have y6 := e6 _ hSw; go_simp
      simp only [Act.put, List.getElem_toArray, List.getElem_cons_zero, List.getElem_cons_succ, List.setIfInBounds_toArray, List.set_cons_zero, List.set_cons_succ]
      refine wpAnyH_take (i := 24) (v := .pointer (some ⟨w.heap.size, 0, none⟩)) rfl (by kernel_rfl) (by kernel_rfl) (by kernel_rfl) (fun _ _ _ h => h) (Or.inl ⟨by rfl, fun w hSw => ?_⟩) hC2 ?_
      ·go_simp
      simp only [Act.put, List.getElem_toArray, List.getElem_cons_zero, List.getElem_cons_succ, List.setIfInBounds_toArray, List.set_cons_zero, List.set_cons_succ]
      refine wpAnyH_take (i := 25) (v := .slice (some ⟨b0, off0, none⟩) 3 cap) rfl (by kernel_rfl) (by kernel_rfl) (by kernel_rfl) (fun _ _ _ h => h) (Or.inl ⟨by rfl, fun w hSw => ?_⟩) hC2 ?_
      ·have yy := d0 _ hSw; go_simp
      simp only [Act.put, List.getElem_toArray, List.getElem_cons_zero, List.getElem_cons_succ, List.setIfInBounds_toArray, List.set_cons_zero, List.set_cons_succ]
      refine wpAnyH_take (i := 26) (v := .int .i64 (k : Int)) rfl (by kernel_rfl) (by kernel_rfl) (by kernel_rfl) (fun _ _ _ h => h) (Or.inl ⟨by rfl, fun w hSw => ?_⟩) hC2 ?_
      ·go_simp
      simp only [Act.put, List.getElem_toArray, List.getElem_cons_zero, List.getElem_cons_succ, List.setIfInBounds_toArray, List.set_cons_zero, List.set_cons_succ]
      refine wpAnyH_take (i := 27) (v := .pointer (some ⟨b0, off0 + k * 7, none⟩)) rfl (by kernel_rfl) (by kernel_rfl) (by kernel_rfl) (fun _ _ _ h => h) (Or.inl ⟨by rfl, fun w hSw => ?_⟩) hC2 ?_
      ·go_simp
      simp only [Act.put, List.getElem_toArray, List.getElem_cons_zero, List.getElem_cons_succ, List.setIfInBounds_toArray, List.set_cons_zero, List.set_cons_succ]
      refine wpAnyH_take (i := 28) (v := .agg #[.slice (fr k).sa (rep l k).store.length (fr k).sc, .slice (fr k).ra (rep l k).refs.length (fr k).rc, .int .i64 (rep l k).gen, .int .i64 (rep l k).phase, .slice (fr k).oa (rep l k).pend.objects.length (fr k).oc, .slice (fr k).ua (rep l k).pend.updates.length (fr k).uc, .bool (rep l k).pend.force]) rfl (by kernel_rfl) (by kernel_rfl) (by kernel_rfl) (fun _ _ _ h => h) (Or.inl ⟨by rfl, fun w hSw => ?_⟩) hC2 ?_
      ·have y0 := g0 _ hSw; have y1 := g1 _ hSw; have y2 := g2 _ hSw; have y3 := g3 _ hSw; have y4 := g4 _ hSw; have y5 := g5 _ hSw; have y6 := g6 _ hSw; go_simp
      simp only [Act.put, List.getElem_toArray, List.getElem_cons_zero, List.getElem_cons_succ, List.setIfInBounds_toArray, List.set_cons_zero, List.set_cons_succ]
      refine wpAnyH_all (rs := [29]) (by kernel_rfl) (by simp) (fun j hj => ?_)
      obtain rfl : j = 29 := by simpa using hj
      refine Or.inl ?_
      go_wp2_with fail
      refine (HSr.out _ hC2).mono ?_
      rintro e x3 ⟨rfl, hb0⟩
      have hC3 := hQn _ _ hC2 (hb0.mono (by first | exact Nat.le_refl _ | omega))
      clear hb0
      go_simp
      refine wpAnyH_take (i := 30) (v := .bool false) rfl (by kernel_rfl) (by kernel_rfl) (by kernel_rfl) (fun _ _ _ h => h) (Or.inl ⟨by rfl, fun w hSw => ?_⟩) hC3 ?_
      ·go_simp
      simp only [Act.put, List.getElem_toArray, List.getElem_cons_zero, List.getElem_cons_succ, List.setIfInBounds_toArray, List.set_cons_zero, List.set_cons_succ]
      refine wpAnyH_take (i := 31) (v := .bool false) rfl (by kernel_rfl) (by kernel_rfl) (by kernel_rfl) (fun _ _ _ h => h) (Or.inl ⟨by rfl, fun w hSw => ?_⟩) hC3 ?_
      ·go_simp
      simp only [Act.put, List.getElem_toArray, List.getElem_cons_zero, List.getElem_cons_succ, List.setIfInBounds_toArray, List.set_cons_zero, List.set_cons_succ]
      refine wpAnyH_done (by kernel_rfl) ?_ _
      have hTe := HQT.out _ hC3
      go_wp2_with fail
      go_roundw
      case rel => exact ⟨k + 1, by omega, by go_num, hTe⟩
      case measure => simp [intOf]; omega
     case false =>
      rw [hbl] at HLs
      by_cases hph : (rep l k).phase = 0
      case neg =>
       have q1 : ((rep l k).phase != 0) = true := by simpa using hph
       rw [Hsm.out (.inr (.inr hph))] at HSr
       clear hph
       go_upto_region 11 with fail
       clear cc
       refine wp_region_held (S := In Q) (by kernel_rfl) ?_
       change wpAnyH _ _ _ _ _ _ _ _ (World.drew _)
       have hC0 := hQ.drew _ hQ1
       generalize hx0 : wo.drew = x0 at hC0 ⊢
       clear hx0
       refine wpAnyH_take (i := 0) (v := .int .i64 up) rfl (by kernel_rfl) (by kernel_rfl) (by kernel_rfl) (fun _ _ _ h => h) (Or.inl ⟨by rfl, fun w hSw => ?_⟩) hC0 ?_
       ·go_simp
       simp only [Act.put, List.getElem_toArray, List.getElem_cons_zero, List.getElem_cons_succ, List.setIfInBounds_toArray, List.set_cons_zero, List.set_cons_succ]
       refine wpAnyH_take (i := 1) (v := .int .i64 (k : Int)) rfl (by kernel_rfl) (by kernel_rfl) (by kernel_rfl) (fun _ _ _ h => h) (Or.inl ⟨by rfl, fun w hSw => ?_⟩) hC0 ?_
       ·go_simp
       simp only [Act.put, List.getElem_toArray, List.getElem_cons_zero, List.getElem_cons_succ, List.setIfInBounds_toArray, List.set_cons_zero, List.set_cons_succ]
       refine wpAnyH_all (rs := [2]) (by kernel_rfl) (by simp) (fun j hj => ?_)
       obtain rfl : j = 2 := by simpa using hj
       refine Or.inl ?_
       go_wp2_with fail
       refine (HUs.out _ hC0).mono ?_
       rintro e x1 ⟨rfl, hb0⟩
       have hC1 := hQn _ _ hC0 (hb0.mono (by first | exact Nat.le_refl _ | omega))
       clear hb0
       go_simp
       refine wpAnyH_take (i := 3) (v := .bool false) rfl (by kernel_rfl) (by kernel_rfl) (by kernel_rfl) (fun _ _ _ h => h) (Or.inl ⟨by rfl, fun w hSw => ?_⟩) hC1 ?_
       ·go_simp
       simp only [Act.put, List.getElem_toArray, List.getElem_cons_zero, List.getElem_cons_succ, List.setIfInBounds_toArray, List.set_cons_zero, List.set_cons_succ]
       refine wpAnyH_take (i := 4) (v := .bool false) rfl (by kernel_rfl) (by kernel_rfl) (by kernel_rfl) (fun _ _ _ h => h) (Or.inl ⟨by rfl, fun w hSw => ?_⟩) hC1 ?_
       ·go_simp
       simp only [Act.put, List.getElem_toArray, List.getElem_cons_zero, List.getElem_cons_succ, List.setIfInBounds_toArray, List.set_cons_zero, List.set_cons_succ]
       refine wpAnyH_take (i := 5) (v := .int .i64 late) rfl (by kernel_rfl) (by kernel_rfl) (by kernel_rfl) (fun _ _ _ h => h) (Or.inl ⟨by rfl, fun w hSw => ?_⟩) hC1 ?_
       ·go_simp
       simp only [Act.put, List.getElem_toArray, List.getElem_cons_zero, List.getElem_cons_succ, List.setIfInBounds_toArray, List.set_cons_zero, List.set_cons_succ]
       refine wpAnyH_take (i := 6) (v := .int .i64 (k : Int)) rfl (by kernel_rfl) (by kernel_rfl) (by kernel_rfl) (fun _ _ _ h => h) (Or.inl ⟨by rfl, fun w hSw => ?_⟩) hC1 ?_
       ·go_simp
       simp only [Act.put, List.getElem_toArray, List.getElem_cons_zero, List.getElem_cons_succ, List.setIfInBounds_toArray, List.set_cons_zero, List.set_cons_succ]
       refine wpAnyH_all (rs := [7]) (by kernel_rfl) (by simp) (fun j hj => ?_)
       obtain rfl : j = 7 := by simpa using hj
       refine Or.inl ?_
       go_wp2_with fail
       refine (HLs.out _ hC1).mono ?_
       rintro e x2 ⟨rfl, hb0⟩
       have hC2 := hQn _ _ hC1 (hb0.mono (by first | exact Nat.le_refl _ | omega))
       clear hb0
       go_simp
       refine wpAnyH_take (i := 8) (v := .bool false) rfl (by kernel_rfl) (by kernel_rfl) (by kernel_rfl) (fun _ _ _ h => h) (Or.inl ⟨by rfl, fun w hSw => ?_⟩) hC2 ?_
       ·go_simp
       simp only [Act.put, List.getElem_toArray, List.getElem_cons_zero, List.getElem_cons_succ, List.setIfInBounds_toArray, List.set_cons_zero, List.set_cons_succ]
       refine wpAnyH_take (i := 9) (v := .bool false) rfl (by kernel_rfl) (by kernel_rfl) (by kernel_rfl) (fun _ _ _ h => h) (Or.inl ⟨by rfl, fun w hSw => ?_⟩) hC2 ?_
       ·go_simp
       simp only [Act.put, List.getElem_toArray, List.getElem_cons_zero, List.getElem_cons_succ, List.setIfInBounds_toArray, List.set_cons_zero, List.set_cons_succ]
       refine wpAnyH_take (i := 10) (v := .pointer (some ⟨w.heap.size, 0, none⟩)) rfl (by kernel_rfl) (by kernel_rfl) (by kernel_rfl) (fun _ _ _ h => h) (Or.inl ⟨by rfl, fun w hSw => ?_⟩) hC2 ?_
       ·go_simp
       simp only [Act.put, List.getElem_toArray, List.getElem_cons_zero, List.getElem_cons_succ, List.setIfInBounds_toArray, List.set_cons_zero, List.set_cons_succ]
       refine wpAnyH_take (i := 11) (v := .slice (some ⟨b0, off0, none⟩) 3 cap) rfl (by kernel_rfl) (by kernel_rfl) (by kernel_rfl) (fun _ _ _ h => h) (Or.inl ⟨by rfl, fun w hSw => ?_⟩) hC2 ?_
       ·have yy := d0 _ hSw; go_simp
       simp only [Act.put, List.getElem_toArray, List.getElem_cons_zero, List.getElem_cons_succ, List.setIfInBounds_toArray, List.set_cons_zero, List.set_cons_succ]
       refine wpAnyH_take (i := 12) (v := .int .i64 (k : Int)) rfl (by kernel_rfl) (by kernel_rfl) (by kernel_rfl) (fun _ _ _ h => h) (Or.inl ⟨by rfl, fun w hSw => ?_⟩) hC2 ?_
       ·go_simp
       simp only [Act.put, List.getElem_toArray, List.getElem_cons_zero, List.getElem_cons_succ, List.setIfInBounds_toArray, List.set_cons_zero, List.set_cons_succ]
       refine wpAnyH_take (i := 13) (v := .pointer (some ⟨b0, off0 + k * 7, none⟩)) rfl (by kernel_rfl) (by kernel_rfl) (by kernel_rfl) (fun _ _ _ h => h) (Or.inl ⟨by rfl, fun w hSw => ?_⟩) hC2 ?_
       ·go_simp
       simp only [Act.put, List.getElem_toArray, List.getElem_cons_zero, List.getElem_cons_succ, List.setIfInBounds_toArray, List.set_cons_zero, List.set_cons_succ]
       refine wpAnyH_take (i := 14) (v := .pointer (some ⟨b0, off0 + k * 7 + 3, none⟩)) rfl (by kernel_rfl) (by kernel_rfl) (by kernel_rfl) (fun _ _ _ h => h) (Or.inl ⟨by rfl, fun w hSw => ?_⟩) hC2 ?_
       ·go_simp
       simp only [Act.put, List.getElem_toArray, List.getElem_cons_zero, List.getElem_cons_succ, List.setIfInBounds_toArray, List.set_cons_zero, List.set_cons_succ]
       refine wpAnyH_take (i := 15) (v := .int .i64 (rep l k).phase) rfl (by kernel_rfl) (by kernel_rfl) (by kernel_rfl) (fun _ _ _ h => h) (Or.inl ⟨by rfl, fun w hSw => ?_⟩) hC2 ?_
       ·have yy := g3 _ hSw; go_simp
       simp only [Act.put, List.getElem_toArray, List.getElem_cons_zero, List.getElem_cons_succ, List.setIfInBounds_toArray, List.set_cons_zero, List.set_cons_succ]
       refine wpAnyH_take (i := 16) (v := .bool true) rfl (by kernel_rfl) (by kernel_rfl) (by kernel_rfl) (fun _ _ _ h => h) (Or.inl ⟨by rfl, fun w hSw => ?_⟩) hC2 ?_
       ·go_simp
       simp only [Act.put, List.getElem_toArray, List.getElem_cons_zero, List.getElem_cons_succ, List.setIfInBounds_toArray, List.set_cons_zero, List.set_cons_succ]
       refine wpAnyH_take (i := 17) (v := .bool true) rfl (by kernel_rfl) (by kernel_rfl) (by kernel_rfl) (fun _ _ _ h => h) (Or.inl ⟨by rfl, fun w hSw => ?_⟩) hC2 ?_
       ·go_simp
       simp only [Act.put, List.getElem_toArray, List.getElem_cons_zero, List.getElem_cons_succ, List.setIfInBounds_toArray, List.set_cons_zero, List.set_cons_succ]
       refine wpAnyH_take (i := 18) (v := .bool true) rfl (by kernel_rfl) (by kernel_rfl) (by kernel_rfl) (fun _ _ _ h => h) (Or.inl ⟨by rfl, fun w hSw => ?_⟩) hC2 ?_
       ·go_simp
       simp only [Act.put, List.getElem_toArray, List.getElem_cons_zero, List.getElem_cons_succ, List.setIfInBounds_toArray, List.set_cons_zero, List.set_cons_succ]
       refine wpAnyH_take (i := 19) (v := .pointer (some ⟨DA, 0, none⟩)) rfl (by kernel_rfl) (by kernel_rfl) (by kernel_rfl) (fun _ _ _ h => h) (Or.inl ⟨by rfl, fun w hSw => ?_⟩) hC2 ?_
       ·go_simp
       simp only [Act.put, List.getElem_toArray, List.getElem_cons_zero, List.getElem_cons_succ, List.setIfInBounds_toArray, List.set_cons_zero, List.set_cons_succ]
       refine wpAnyH_take (i := 20) (v := .slice (some ⟨b1, off1, none⟩) 3 c1) rfl (by kernel_rfl) (by kernel_rfl) (by kernel_rfl) (fun _ _ _ h => h) (Or.inl ⟨by rfl, fun w hSw => ?_⟩) hC2 ?_
       ·have yy := d1 _ hSw; go_simp
       simp only [Act.put, List.getElem_toArray, List.getElem_cons_zero, List.getElem_cons_succ, List.setIfInBounds_toArray, List.set_cons_zero, List.set_cons_succ]
       refine wpAnyH_take (i := 21) (v := .int .i64 (k : Int)) rfl (by kernel_rfl) (by kernel_rfl) (by kernel_rfl) (fun _ _ _ h => h) (Or.inl ⟨by rfl, fun w hSw => ?_⟩) hC2 ?_
       ·go_simp
       simp only [Act.put, List.getElem_toArray, List.getElem_cons_zero, List.getElem_cons_succ, List.setIfInBounds_toArray, List.set_cons_zero, List.set_cons_succ]
       refine wpAnyH_take (i := 22) (v := .pointer (some ⟨b1, off1 + k * 7, none⟩)) rfl (by kernel_rfl) (by kernel_rfl) (by kernel_rfl) (fun _ _ _ h => h) (Or.inl ⟨by rfl, fun w hSw => ?_⟩) hC2 ?_
       ·go_simp
       simp only [Act.put, List.getElem_toArray, List.getElem_cons_zero, List.getElem_cons_succ, List.setIfInBounds_toArray, List.set_cons_zero, List.set_cons_succ]
       refine wpAnyH_take (i := 23) (v := .agg #[.slice (fa k).sa (rep pl k).store.length (fa k).sc, .slice (fa k).ra (rep pl k).refs.length (fa k).rc, .int .i64 (rep pl k).gen, .int .i64 (rep pl k).phase, .slice (fa k).oa (rep pl k).pend.objects.length (fa k).oc, .slice (fa k).ua (rep pl k).pend.updates.length (fa k).uc, .bool (rep pl k).pend.force]) rfl (by kernel_rfl) (by kernel_rfl) (by kernel_rfl) (fun _ _ _ h => h) (Or.inl ⟨by rfl, fun w hSw => ?_⟩) hC2 ?_
       ·have y0 := e0 _ hSw; have y1 := e1 _ hSw; have y2 := e2 _ hSw; have y3 := e3 _ hSw; have y4 := e4 _ hSw; have y5 := e5 _ hSw; have y6 := e6 _ hSw; go_simp
       simp only [Act.put, List.getElem_toArray, List.getElem_cons_zero, List.getElem_cons_succ, List.setIfInBounds_toArray, List.set_cons_zero, List.set_cons_succ]
       refine wpAnyH_take (i := 24) (v := .pointer (some ⟨w.heap.size, 0, none⟩)) rfl (by kernel_rfl) (by kernel_rfl) (by kernel_rfl) (fun _ _ _ h => h) (Or.inl ⟨by rfl, fun w hSw => ?_⟩) hC2 ?_
       ·go_simp
       simp only [Act.put, List.getElem_toArray, List.getElem_cons_zero, List.getElem_cons_succ, List.setIfInBounds_toArray, List.set_cons_zero, List.set_cons_succ]
       refine wpAnyH_take (i := 25) (v := .slice (some ⟨b0, off0, none⟩) 3 cap) rfl (by kernel_rfl) (by kernel_rfl) (by kernel_rfl) (fun _ _ _ h => h) (Or.inl ⟨by rfl, fun w hSw => ?_⟩) hC2 ?_
       ·have yy := d0 _ hSw; go_simp
       simp only [Act.put, List.getElem_toArray, List.getElem_cons_zero, List.getElem_cons_succ, List.setIfInBounds_toArray, List.set_cons_zero, List.set_cons_succ]
       refine wpAnyH_take (i := 26) (v := .int .i64 (k : Int)) rfl (by kernel_rfl) (by kernel_rfl) (by kernel_rfl) (fun _ _ _ h => h) (Or.inl ⟨by rfl, fun w hSw => ?_⟩) hC2 ?_
       ·go_simp
       simp only [Act.put, List.getElem_toArray, List.getElem_cons_zero, List.getElem_cons_succ, List.setIfInBounds_toArray, List.set_cons_zero, List.set_cons_succ]
       refine wpAnyH_take (i := 27) (v := .pointer (some ⟨b0, off0 + k * 7, none⟩)) rfl (by kernel_rfl) (by kernel_rfl) (by kernel_rfl) (fun _ _ _ h => h) (Or.inl ⟨by rfl, fun w hSw => ?_⟩) hC2 ?_
       ·go_simp
       simp only [Act.put, List.getElem_toArray, List.getElem_cons_zero, List.getElem_cons_succ, List.setIfInBounds_toArray, List.set_cons_zero, List.set_cons_succ]
       refine wpAnyH_take (i := 28) (v := .agg #[.slice (fr k).sa (rep l k).store.length (fr k).sc, .slice (fr k).ra (rep l k).refs.length (fr k).rc, .int .i64 (rep l k).gen, .int .i64 (rep l k).phase, .slice (fr k).oa (rep l k).pend.objects.length (fr k).oc, .slice (fr k).ua (rep l k).pend.updates.length (fr k).uc, .bool (rep l k).pend.force]) rfl (by kernel_rfl) (by kernel_rfl) (by kernel_rfl) (fun _ _ _ h => h) (Or.inl ⟨by rfl, fun w hSw => ?_⟩) hC2 ?_
       ·have y0 := g0 _ hSw; have y1 := g1 _ hSw; have y2 := g2 _ hSw; have y3 := g3 _ hSw; have y4 := g4 _ hSw; have y5 := g5 _ hSw; have y6 := g6 _ hSw; go_simp
       simp only [Act.put, List.getElem_toArray, List.getElem_cons_zero, List.getElem_cons_succ, List.setIfInBounds_toArray, List.set_cons_zero, List.set_cons_succ]
       refine wpAnyH_all (rs := [29]) (by kernel_rfl) (by simp) (fun j hj => ?_)
       obtain rfl : j = 29 := by simpa using hj
       refine Or.inl ?_
       go_wp2_with fail
       refine (HSr.out _ hC2).mono ?_
       rintro e x3 ⟨rfl, hb0⟩
       have hC3 := hQn _ _ hC2 (hb0.mono (by first | exact Nat.le_refl _ | omega))
       clear hb0
       go_simp
       refine wpAnyH_take (i := 30) (v := .bool false) rfl (by kernel_rfl) (by kernel_rfl) (by kernel_rfl) (fun _ _ _ h => h) (Or.inl ⟨by rfl, fun w hSw => ?_⟩) hC3 ?_
       ·go_simp
       simp only [Act.put, List.getElem_toArray, List.getElem_cons_zero, List.getElem_cons_succ, List.setIfInBounds_toArray, List.set_cons_zero, List.set_cons_succ]
       refine wpAnyH_take (i := 31) (v := .bool false) rfl (by kernel_rfl) (by kernel_rfl) (by kernel_rfl) (fun _ _ _ h => h) (Or.inl ⟨by rfl, fun w hSw => ?_⟩) hC3 ?_
       ·go_simp
       simp only [Act.put, List.getElem_toArray, List.getElem_cons_zero, List.getElem_cons_succ, List.setIfInBounds_toArray, List.set_cons_zero, List.set_cons_succ]
       refine wpAnyH_done (by kernel_rfl) ?_ _
       have hTe := HQT.out _ hC3
       go_wp2_with fail
       go_roundw
       case rel => exact ⟨k + 1, by omega, by go_num, hTe⟩
       case measure => simp [intOf]; omega
      case pos =>
       have q1 : ((rep l k).phase != 0) = false := by simpa using hph
       clear hph
       go_upto_region 11 with fail
       clear cc
       refine wp_region_held (S := In Q) (by kernel_rfl) ?_
       change wpAnyH _ _ _ _ _ _ _ _ (World.drew _)
       have hC0 := hQ.drew _ hQ1
       generalize hx0 : wo.drew = x0 at hC0 ⊢
       clear hx0
       refine wpAnyH_take (i := 0) (v := .int .i64 up) rfl (by kernel_rfl) (by kernel_rfl) (by kernel_rfl) (fun _ _ _ h => h) (Or.inl ⟨by rfl, fun w hSw => ?_⟩) hC0 ?_
       ·go_simp
       simp only [Act.put, List.getElem_toArray, List.getElem_cons_zero, List.getElem_cons_succ, List.setIfInBounds_toArray, List.set_cons_zero, List.set_cons_succ]
       refine wpAnyH_take (i := 1) (v := .int .i64 (k : Int)) rfl (by kernel_rfl) (by kernel_rfl) (by kernel_rfl) (fun _ _ _ h => h) (Or.inl ⟨by rfl, fun w hSw => ?_⟩) hC0 ?_
       ·go_simp
       simp only [Act.put, List.getElem_toArray, List.getElem_cons_zero, List.getElem_cons_succ, List.setIfInBounds_toArray, List.set_cons_zero, List.set_cons_succ]
       refine wpAnyH_all (rs := [2]) (by kernel_rfl) (by simp) (fun j hj => ?_)
       obtain rfl : j = 2 := by simpa using hj
       refine Or.inl ?_
       go_wp2_with fail
       refine (HUs.out _ hC0).mono ?_
       rintro e x1 ⟨rfl, hb0⟩
       have hC1 := hQn _ _ hC0 (hb0.mono (by first | exact Nat.le_refl _ | omega))
       clear hb0
       go_simp
       refine wpAnyH_take (i := 3) (v := .bool false) rfl (by kernel_rfl) (by kernel_rfl) (by kernel_rfl) (fun _ _ _ h => h) (Or.inl ⟨by rfl, fun w hSw => ?_⟩) hC1 ?_
       ·go_simp
       simp only [Act.put, List.getElem_toArray, List.getElem_cons_zero, List.getElem_cons_succ, List.setIfInBounds_toArray, List.set_cons_zero, List.set_cons_succ]
       refine wpAnyH_take (i := 4) (v := .bool false) rfl (by kernel_rfl) (by kernel_rfl) (by kernel_rfl) (fun _ _ _ h => h) (Or.inl ⟨by rfl, fun w hSw => ?_⟩) hC1 ?_
       ·go_simp
       simp only [Act.put, List.getElem_toArray, List.getElem_cons_zero, List.getElem_cons_succ, List.setIfInBounds_toArray, List.set_cons_zero, List.set_cons_succ]
       refine wpAnyH_take (i := 5) (v := .int .i64 late) rfl (by kernel_rfl) (by kernel_rfl) (by kernel_rfl) (fun _ _ _ h => h) (Or.inl ⟨by rfl, fun w hSw => ?_⟩) hC1 ?_
       ·go_simp
       simp only [Act.put, List.getElem_toArray, List.getElem_cons_zero, List.getElem_cons_succ, List.setIfInBounds_toArray, List.set_cons_zero, List.set_cons_succ]
       refine wpAnyH_take (i := 6) (v := .int .i64 (k : Int)) rfl (by kernel_rfl) (by kernel_rfl) (by kernel_rfl) (fun _ _ _ h => h) (Or.inl ⟨by rfl, fun w hSw => ?_⟩) hC1 ?_
       ·go_simp
       simp only [Act.put, List.getElem_toArray, List.getElem_cons_zero, List.getElem_cons_succ, List.setIfInBounds_toArray, List.set_cons_zero, List.set_cons_succ]
       refine wpAnyH_all (rs := [7]) (by kernel_rfl) (by simp) (fun j hj => ?_)
       obtain rfl : j = 7 := by simpa using hj
       refine Or.inl ?_
       go_wp2_with fail
       refine (HLs.out _ hC1).mono ?_
       rintro e x2 ⟨rfl, hb0⟩
       have hC2 := hQn _ _ hC1 (hb0.mono (by first | exact Nat.le_refl _ | omega))
       clear hb0
       go_simp
       refine wpAnyH_take (i := 8) (v := .bool false) rfl (by kernel_rfl) (by kernel_rfl) (by kernel_rfl) (fun _ _ _ h => h) (Or.inl ⟨by rfl, fun w hSw => ?_⟩) hC2 ?_
       ·go_simp
       simp only [Act.put, List.getElem_toArray, List.getElem_cons_zero, List.getElem_cons_succ, List.setIfInBounds_toArray, List.set_cons_zero, List.set_cons_succ]
       refine wpAnyH_take (i := 9) (v := .bool false) rfl (by kernel_rfl) (by kernel_rfl) (by kernel_rfl) (fun _ _ _ h => h) (Or.inl ⟨by rfl, fun w hSw => ?_⟩) hC2 ?_
       ·go_simp
       simp only [Act.put, List.getElem_toArray, List.getElem_cons_zero, List.getElem_cons_succ, List.setIfInBounds_toArray, List.set_cons_zero, List.set_cons_succ]
       refine wpAnyH_take (i := 10) (v := .pointer (some ⟨w.heap.size, 0, none⟩)) rfl (by kernel_rfl) (by kernel_rfl) (by kernel_rfl) (fun _ _ _ h => h) (Or.inl ⟨by rfl, fun w hSw => ?_⟩) hC2 ?_
       ·go_simp
       simp only [Act.put, List.getElem_toArray, List.getElem_cons_zero, List.getElem_cons_succ, List.setIfInBounds_toArray, List.set_cons_zero, List.set_cons_succ]
       refine wpAnyH_take (i := 11) (v := .slice (some ⟨b0, off0, none⟩) 3 cap) rfl (by kernel_rfl) (by kernel_rfl) (by kernel_rfl) (fun _ _ _ h => h) (Or.inl ⟨by rfl, fun w hSw => ?_⟩) hC2 ?_
       ·have yy := d0 _ hSw; go_simp
       simp only [Act.put, List.getElem_toArray, List.getElem_cons_zero, List.getElem_cons_succ, List.setIfInBounds_toArray, List.set_cons_zero, List.set_cons_succ]
       refine wpAnyH_take (i := 12) (v := .int .i64 (k : Int)) rfl (by kernel_rfl) (by kernel_rfl) (by kernel_rfl) (fun _ _ _ h => h) (Or.inl ⟨by rfl, fun w hSw => ?_⟩) hC2 ?_
       ·go_simp
       simp only [Act.put, List.getElem_toArray, List.getElem_cons_zero, List.getElem_cons_succ, List.setIfInBounds_toArray, List.set_cons_zero, List.set_cons_succ]
       refine wpAnyH_take (i := 13) (v := .pointer (some ⟨b0, off0 + k * 7, none⟩)) rfl (by kernel_rfl) (by kernel_rfl) (by kernel_rfl) (fun _ _ _ h => h) (Or.inl ⟨by rfl, fun w hSw => ?_⟩) hC2 ?_
       ·go_simp
       simp only [Act.put, List.getElem_toArray, List.getElem_cons_zero, List.getElem_cons_succ, List.setIfInBounds_toArray, List.set_cons_zero, List.set_cons_succ]
       refine wpAnyH_take (i := 14) (v := .pointer (some ⟨b0, off0 + k * 7 + 3, none⟩)) rfl (by kernel_rfl) (by kernel_rfl) (by kernel_rfl) (fun _ _ _ h => h) (Or.inl ⟨by rfl, fun w hSw => ?_⟩) hC2 ?_
       ·go_simp
       simp only [Act.put, List.getElem_toArray, List.getElem_cons_zero, List.getElem_cons_succ, List.setIfInBounds_toArray, List.set_cons_zero, List.set_cons_succ]
       refine wpAnyH_take (i := 15) (v := .int .i64 (rep l k).phase) rfl (by kernel_rfl) (by kernel_rfl) (by kernel_rfl) (fun _ _ _ h => h) (Or.inl ⟨by rfl, fun w hSw => ?_⟩) hC2 ?_
       ·have yy := g3 _ hSw; go_simp
       simp only [Act.put, List.getElem_toArray, List.getElem_cons_zero, List.getElem_cons_succ, List.setIfInBounds_toArray, List.set_cons_zero, List.set_cons_succ]
       refine wpAnyH_take (i := 16) (v := .bool false) rfl (by kernel_rfl) (by kernel_rfl) (by kernel_rfl) (fun _ _ _ h => h) (Or.inl ⟨by rfl, fun w hSw => ?_⟩) hC2 ?_
       ·go_simp
       simp only [Act.put, List.getElem_toArray, List.getElem_cons_zero, List.getElem_cons_succ, List.setIfInBounds_toArray, List.set_cons_zero, List.set_cons_succ]
       refine wpAnyH_take (i := 17) (v := .bool false) rfl (by kernel_rfl) (by kernel_rfl) (by kernel_rfl) (fun _ _ _ h => h) (Or.inl ⟨by rfl, fun w hSw => ?_⟩) hC2 ?_
       ·go_simp
       simp only [Act.put, List.getElem_toArray, List.getElem_cons_zero, List.getElem_cons_succ, List.setIfInBounds_toArray, List.set_cons_zero, List.set_cons_succ]
       refine wpAnyH_take (i := 18) (v := .bool false) rfl (by kernel_rfl) (by kernel_rfl) (by kernel_rfl) (fun _ _ _ h => h) (Or.inl ⟨by rfl, fun w hSw => ?_⟩) hC2 ?_
       ·go_simp
       simp only [Act.put, List.getElem_toArray, List.getElem_cons_zero, List.getElem_cons_succ, List.setIfInBounds_toArray, List.set_cons_zero, List.set_cons_succ]
       refine wpAnyH_take (i := 19) (v := undef) rfl (by kernel_rfl) (by kernel_rfl) (by kernel_rfl) (fun _ _ _ h => h) (Or.inr ⟨by rfl, rfl⟩) hC2 ?_
       simp only [Act.put, List.getElem_toArray, List.getElem_cons_zero, List.getElem_cons_succ, List.setIfInBounds_toArray, List.set_cons_zero, List.set_cons_succ]
       refine wpAnyH_take (i := 20) (v := undef) rfl (by kernel_rfl) (by kernel_rfl) (by kernel_rfl) (fun _ _ _ h => h) (Or.inr ⟨by rfl, rfl⟩) hC2 ?_
       simp only [Act.put, List.getElem_toArray, List.getElem_cons_zero, List.getElem_cons_succ, List.setIfInBounds_toArray, List.set_cons_zero, List.set_cons_succ]
       refine wpAnyH_take (i := 21) (v := undef) rfl (by kernel_rfl) (by kernel_rfl) (by kernel_rfl) (fun _ _ _ h => h) (Or.inr ⟨by rfl, rfl⟩) hC2 ?_
       simp only [Act.put, List.getElem_toArray, List.getElem_cons_zero, List.getElem_cons_succ, List.setIfInBounds_toArray, List.set_cons_zero, List.set_cons_succ]
       refine wpAnyH_take (i := 22) (v := undef) rfl (by kernel_rfl) (by kernel_rfl) (by kernel_rfl) (fun _ _ _ h => h) (Or.inr ⟨by rfl, rfl⟩) hC2 ?_
       simp only [Act.put, List.getElem_toArray, List.getElem_cons_zero, List.getElem_cons_succ, List.setIfInBounds_toArray, List.set_cons_zero, List.set_cons_succ]
       refine wpAnyH_take (i := 23) (v := undef) rfl (by kernel_rfl) (by kernel_rfl) (by kernel_rfl) (fun _ _ _ h => h) (Or.inr ⟨by rfl, rfl⟩) hC2 ?_
       simp only [Act.put, List.getElem_toArray, List.getElem_cons_zero, List.getElem_cons_succ, List.setIfInBounds_toArray, List.set_cons_zero, List.set_cons_succ]
       refine wpAnyH_take (i := 24) (v := undef) rfl (by kernel_rfl) (by kernel_rfl) (by kernel_rfl) (fun _ _ _ h => h) (Or.inr ⟨by rfl, rfl⟩) hC2 ?_
       simp only [Act.put, List.getElem_toArray, List.getElem_cons_zero, List.getElem_cons_succ, List.setIfInBounds_toArray, List.set_cons_zero, List.set_cons_succ]
       refine wpAnyH_take (i := 25) (v := undef) rfl (by kernel_rfl) (by kernel_rfl) (by kernel_rfl) (fun _ _ _ h => h) (Or.inr ⟨by rfl, rfl⟩) hC2 ?_
       simp only [Act.put, List.getElem_toArray, List.getElem_cons_zero, List.getElem_cons_succ, List.setIfInBounds_toArray, List.set_cons_zero, List.set_cons_succ]
       refine wpAnyH_take (i := 26) (v := undef) rfl (by kernel_rfl) (by kernel_rfl) (by kernel_rfl) (fun _ _ _ h => h) (Or.inr ⟨by rfl, rfl⟩) hC2 ?_
       simp only [Act.put, List.getElem_toArray, List.getElem_cons_zero, List.getElem_cons_succ, List.setIfInBounds_toArray, List.set_cons_zero, List.set_cons_succ]
       refine wpAnyH_take (i := 27) (v := undef) rfl (by kernel_rfl) (by kernel_rfl) (by kernel_rfl) (fun _ _ _ h => h) (Or.inr ⟨by rfl, rfl⟩) hC2 ?_
       simp only [Act.put, List.getElem_toArray, List.getElem_cons_zero, List.getElem_cons_succ, List.setIfInBounds_toArray, List.set_cons_zero, List.set_cons_succ]
       refine wpAnyH_take (i := 28) (v := undef) rfl (by kernel_rfl) (by kernel_rfl) (by kernel_rfl) (fun _ _ _ h => h) (Or.inr ⟨by rfl, rfl⟩) hC2 ?_
       simp only [Act.put, List.getElem_toArray, List.getElem_cons_zero, List.getElem_cons_succ, List.setIfInBounds_toArray, List.set_cons_zero, List.set_cons_succ]
       refine wpAnyH_take (i := 29) (v := undef) rfl (by kernel_rfl) (by kernel_rfl) (by kernel_rfl) (fun _ _ _ h => h) (Or.inr ⟨by rfl, rfl⟩) hC2 ?_
       simp only [Act.put, List.getElem_toArray, List.getElem_cons_zero, List.getElem_cons_succ, List.setIfInBounds_toArray, List.set_cons_zero, List.set_cons_succ]
       refine wpAnyH_take (i := 30) (v := undef) rfl (by kernel_rfl) (by kernel_rfl) (by kernel_rfl) (fun _ _ _ h => h) (Or.inr ⟨by rfl, rfl⟩) hC2 ?_
       simp only [Act.put, List.getElem_toArray, List.getElem_cons_zero, List.getElem_cons_succ, List.setIfInBounds_toArray, List.set_cons_zero, List.set_cons_succ]
       refine wpAnyH_take (i := 31) (v := .bool false) rfl (by kernel_rfl) (by kernel_rfl) (by kernel_rfl) (fun _ _ _ h => h) (Or.inl ⟨by rfl, fun w hSw => ?_⟩) hC2 ?_
       ·go_simp
       simp only [Act.put, List.getElem_toArray, List.getElem_cons_zero, List.getElem_cons_succ, List.setIfInBounds_toArray, List.set_cons_zero, List.set_cons_succ]
       refine wpAnyH_done (by kernel_rfl) ?_ _
       have hTe := HQT.out _ hC2
       go_wp2_with fail
       go_roundw
       case rel => exact ⟨k + 1, by omega, by go_num, hTe⟩
       case measure => simp [intOf]; omega
   case neg =>
    have hk3 : (k : Int) = 3 := by omega
    rw [hk3]
    clear hk3 hk hlt
    go_wp2_with fail
    go_loopw [13, 14] (fun o i wr => ∃ k : Nat, k ≤ 3 ∧ i = .int .i64 k ∧ o = .int .i64 (othTo up late k) ∧ In T wr) (fun _ i _ => 3 - (intOf i).toNat)
    case atStart => exact ⟨0, by omega, rfl, rfl, hTr⟩
    case round =>
     obtain ⟨k, hk, rfl, rfl, hTr⟩ := hrel
     clear cc
     obtain ⟨wo, rfl⟩ : ∃ wo : World, wo = wr := ⟨_, rfl⟩
     have cc := tc _ hTr
     by_cases hlt : k < 3
     case pos =>
      have hi1 : (0 : Int) ≤ (k : Int) := by omega
      have hi2 : (k : Int) < 3 := by omega
      have Hn := Lib.hid (show othTo up late (k + 1) = if (!bitB up k && !bitB (othTo up late k) k) = true then othTo up late k + 2 ^ k else othTo up late k from rfl)
      have hin := oth_in (up := up) (late := late) HuB.out HlB.out (k := k) (by omega)
      have hin2 := oth_in (up := up) (late := late) HuB.out HlB.out (k := k + 1) (by omega)
      have hTa := hT.alloc _ (.cells #[.int .i64 1, .int .i64 2, .int .i64 4] 3) hTr
      have yb := block_cell (heap_alloc_new wo (.cells #[.int .i64 1, .int .i64 2, .int .i64 4] 3)) (bit_cell hlt)
      generalize hpw : (2 ^ k : Int) = bk at *
      have HIu := Lib.hid (fun x => isSet_any up k x HuB.out hlt)
      have HIo := Lib.hid (fun x => isSet_any (othTo up late k) k x hin hlt)
      generalize hot : othTo up late k = oo at *
      cases hbu : bitB up k
      case true =>
       have Hr := Lib.hid (show othTo up late (k + 1) = oo by rw [Hn.out, hbu]; rfl)
       rw [hbu] at HIu
       clear Hn hpw hot hin hin2
       go_wp2_with fail
       refine (HIu.out _).mono ?_
       rintro e x1 ⟨rfl, hb0⟩
       have hT1x := hTn _ _ hTa hb0
       clear hb0 yb
       go_wp2_with fail
       go_roundw
       case rel => exact ⟨k + 1, by omega, by go_num, by rw [Hr.out], hT1x⟩
       case measure => simp [intOf]; omega
      case false =>
       rw [hbu] at HIu
       cases hbo : bitB oo k
       case true =>
        have Hr := Lib.hid (show othTo up late (k + 1) = oo by rw [Hn.out, hbu, hbo]; rfl)
        rw [hbo] at HIo
        clear Hn hpw hot hin hin2
        go_wp2_with fail
        refine (HIu.out _).mono ?_
        rintro e x1 ⟨rfl, hb0⟩
        have hT1x := hTn _ _ hTa hb0
        clear hb0 yb
        go_wp2_with fail
        refine (HIo.out _).mono ?_
        rintro e x2 ⟨rfl, hb0⟩
        have hT2x := hTn _ _ hT1x hb0
        clear hb0
        go_wp2_with fail
        go_roundw
        case rel => exact ⟨k + 1, by omega, by go_num, by rw [Hr.out], hT2x⟩
        case measure => simp [intOf]; omega
       case false =>
        have Hr := Lib.hid (show othTo up late (k + 1) = oo + bk by rw [Hn.out, hbu, hbo]; rfl)
        rw [hbo] at HIo
        rw [Hr.out] at hin2
        have hwr := wrap_in (n := oo + bk) (by omega)
        clear Hn hpw hot hin hin2
        go_wp2_with fail
        refine (HIu.out _).mono ?_
        rintro e x1 ⟨rfl, hb0⟩
        have hT1x := hTn _ _ hTa hb0
        clear hb0 yb
        go_wp2_with fail
        refine (HIo.out _).mono ?_
        rintro e x2 ⟨rfl, hb0⟩
        have hT2x := hTn _ _ hT1x hb0
        clear hb0
        go_wp2_with fail
        go_roundw
        case rel => exact ⟨k + 1, by omega, by go_num, by rw [Hr.out], hT2x⟩
        case measure => simp [intOf]; omega
     case neg =>
      obtain rfl : k = 3 := by omega
      obtain ⟨o1, o2, o3⟩ := HS.out.oth
      have HP2 := Lib.hid (cluPush_any l p up (othTo up late 3) _ _ _ _ _ wo (H.out.below (HBt.out _ hTr)) ⟨HP.out.1.below (HBt.out _ hTr), HP.out.2.below (HBt.out _ hTr)⟩ (HTw.out.below (HBt.out _ hTr)))
      rw [o1, o2, o3, HL3.out] at HP2
      simp only [pshV] at HP2
      clear o1 o2 o3
      have r0 := p0 _ (hTR _ hTr)
      have r1 := p1 _ (hTR _ hTr)
      have r2 := p2 _ (hTR _ hTr)
      generalize othTo up late 3 = oo at *
      go_wp2_with fail
      refine HP2.out.mono ?_
      rintro e x1 ⟨v5, rfl, ⟨F5, hO5, hF5⟩, hb5⟩
      obtain ⟨a5, c5, rfl⟩ := hO5.shape
      have hTx := hTn _ _ hTr hb5
      have Hv5 := Lib.hid (hO5.any Hlp.out)
      clear hO5 hF5 hb5 r0 r1 r2 cc HP2
      have hTy := hT.alloc _ (.cells #[.slice a5 pl.length c5] 24) hTx
      have hbA : Below x1.heap.size x1 (x1.alloc (.cells #[.slice a5 pl.length c5] 24)) := (Below.refl _ _).alloc (Nat.le_refl _) _
      have yB := block_cell (j := 0) (heap_alloc_new x1 (.cells #[.slice a5 pl.length c5] 24)) rfl
      have aa := tA _ hTy
      have HvA3 := HvA2.out
      rw [HP3.out] at HvA3
      have HSc := Lib.hid (sameCluster_any pl pl _ _ _ _ (x1.alloc (.cells #[.slice a5 pl.length c5] 24)) (HvA3.below (hTb _ hTy)) (Hv5.out.below hbA))
      rw [(sameClu_iff _ _).2 rfl] at HSc
      clear hbA
      simp only [List.getElem_toArray, List.getElem_cons_zero] at yB
      go_wp2_with fail
      refine HSc.out.mono ?_
      rintro e x2 ⟨rfl, hb6⟩
      have HE := Lib.hid (HBt.out _ (hTn _ _ hTy hb6))
      clear hb6
      go_wp2_with fail
      go_ret
      exact ⟨rfl, HE.out⟩
end Go.Proofs.YtgkbalhkjolnmaaGreatDoor
