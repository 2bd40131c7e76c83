/- DeskL: walk of the reference's ShowOf. -/
import Derived.Test.YtjdgpgfiomnjkaaGreatDoorT29
set_option linter.all false
set_option maxHeartbeats 16000000
set_option maxRecDepth 100000
namespace Go.Proofs.YtjdgpgfiomnjkaaGreatDoor
open Go.RowKit
theorem Sb (l : List An) (cv : Value) (S : Nat → Prop) (w : World) (h : AJ S w cv l) (hc : Be l) :
  Calls Tryz.prog 40 #[.agg #[cv]] w fun e w' => e = .returned (.string (Mn (Af l (Co l)))) ∧ Below w.heap.size w w' := by
 have H := zh h
 obtain ⟨a, n, cap, fr, HN, rfl, _, _, _, h4, h5⟩ := h.open
 have hl3 := hc.len
 obtain rfl : n = 3 := HN.out.trans hl3
 have hbl : Co l < 3 := by have := GL (l := l) (by omega); omega
 have Hr := zh (hc.each _ hbl)
 obtain ⟨b0, off0, rfl, _, k0, k1, k2, k3, k4, k5, k6⟩ := h4 (by omega)
 have Hk := zh (And.intro k0 (And.intro k1 (And.intro k2 (And.intro k3 (And.intro k4 (And.intro k5 k6))))))
 clear k0 k1 k2 k3 k4 k5 k6 h4 HN hl3 hc
 obtain ⟨R, hR, hR1, HB0⟩ := AI w [.cells #[.slice (some ⟨b0, off0, none⟩) 3 cap] 66]
 simp only [List.foldl] at hR1
 have hRb := hR.below
 have hRn := hR.next
 have c0 := fun x (hx : In R x) => Aa (j := 0) (HB0 x hx 0 _ rfl) rfl
 simp only [Nat.add_zero] at c0
 clear HB0
 have HBe := zh (fun x (hx : In R x) => JE l _ _ x (H.out.below (hRb _ hx)))
 clear h
 generalize hbe : Co l = b at *
 clear hbe
 have HRf := zh (h5 b hbl).refs
 clear h5
 have hi1 : (0 : Int) ≤ (b : Int) := by omega
 have hi2 : (b : Int) < 3 := by omega
 have hgen := Hr.out.gen
 have HI0 := zh (fun (x : World) => Ee (Af l b).gen hgen.1 (by omega) x)
 have hds := Dp hgen.1 hgen.2
 have hp0 : ¬ 9223372036854775807 < (AS (Af l b).gen).size + 1 := by omega
 have e1 : Ph.size = 1 := by decide +kernel
 have Hds := zh (show (AS (Af l b).gen ++ Ph).size ≤ 100 from by rw [ByteArray.size_append]; omega)
 clear e1 hgen hds
 have HsS := zh (show Mn (Af l b) = Dw (Af l b).refs (AS (Af l b).gen ++ Ph) (Af l b).refs.length from rfl)
 obtain ⟨x5, hx5⟩ : ∃ x5, x5 = (w.alloc (.cells #[.slice (some ⟨b0, off0, none⟩) 3 cap] 66)) := ⟨_, rfl⟩
 rw [← hx5] at hR1
 have Hx5 := zh hx5
 clear hx5
 go_enter Tryz.func40, Tryz.ntmps40
 go_upto_region 1 with fail
 rw [← Hx5.out]
 obtain ⟨Q, hQ, hQ1, hQu⟩ := EJ x5
 have hQb := hQ.below
 have hQn := hQ.next
 have HQu := zh hQu
 clear hQu
 have HQR := zh (fun x (hx : In Q x) => hRn _ _ hR1 (hQb _ hx))
 have d0 := fun x (hx : In Q x) => c0 x (HQR.out x hx)
 have g0 := fun x (hx : In Q x) => Hk.out.1 b x hbl (hRb _ (HQR.out x hx))
 have g1 := fun x (hx : In Q x) => Hk.out.2.1 b x hbl (hRb _ (HQR.out x hx))
 have g2 := fun x (hx : In Q x) => Hk.out.2.2.1 b x hbl (hRb _ (HQR.out x hx))
 have g3 := fun x (hx : In Q x) => Hk.out.2.2.2.1 b x hbl (hRb _ (HQR.out x hx))
 have g4 := fun x (hx : In Q x) => Hk.out.2.2.2.2.1 b x hbl (hRb _ (HQR.out x hx))
 have g5 := fun x (hx : In Q x) => Hk.out.2.2.2.2.2.1 b x hbl (hRb _ (HQR.out x hx))
 have g6 := fun x (hx : In Q x) => Hk.out.2.2.2.2.2.2 b x hbl (hRb _ (HQR.out x hx))
 go_cut [3] (fun s3 wx => ∃ D9, s3 = .pointer (some ⟨D9, 0, none⟩) ∧ ∃ y9, y9 = wx ∧ Hid (In Q y9 ∧ y9.heap[D9]? = some (.cells (c7 (Af l b) (fr b).sa (fr b).sc (fr b).ra (fr b).rc (fr b).oa (fr b).oc (fr b).ua (fr b).uc) 28 (0, 0))))
 case first =>
  refine wp_region_held (S := In Q) (by kernel_rfl) ?_
  change wpAnyH _ _ _ _ _ _ _ _ (World.drew _)
  have hC0 := hQ.drew _ hQ1
  generalize hx0 : x5.drew = z0 at hC0 ⊢
  clear hx0
  refine tk 0 (.pointer (some ⟨w.heap.size, 0, none⟩)) (fun w hSw => ?_) hC0 ?_
  ·go_simp
  simp only [tkS]
  refine tk 1 (.slice (some ⟨b0, off0, none⟩) 3 cap) (fun w hSw => ?_) hC0 ?_
  ·have yy := d0 _ hSw; go_simp
  simp only [tkS]
  refine tk 2 (.agg #[.slice (some ⟨b0, off0, none⟩) 3 cap]) (fun w hSw => ?_) hC0 ?_
  ·have yy := d0 _ hSw; go_simp
  simp only [tkS]
  refine al2 3 6 ?_ ?_
  ·skip
   refine Or.inl ?_
   go_wp2_with fail
   refine (HBe.out _ (HQR.out _ hC0)).mono ?_
   rintro e x20 ⟨rfl, hb9⟩
   have hC1 := hQn _ _ hC0 hb9
   clear hb9
   generalize x20 = z1 at *
   go_simp
   refine tk 4 (.pointer (some ⟨b0, off0 + b * 7, none⟩)) (fun w hSw => ?_) hC1 ?_
   ·go_simp
   simp only [tkS]
   refine tk 5 (.agg (c7 (Af l b) (fr b).sa (fr b).sc (fr b).ra (fr b).rc (fr b).oa (fr b).oc (fr b).ua (fr b).uc)) (fun w hSw => ?_) hC1 ?_
   ·have y0 := g0 _ hSw; have y1 := g1 _ hSw; have y2 := g2 _ hSw; have y3 := g3 _ hSw; have y4 := g4 _ hSw; have y5 := g5 _ hSw; have y6 := g6 _ hSw; go_simp
   simp only [tkS]
   refine al1 6 ?_
   refine Or.inl ?_
   have hC2 := hQ.alloc _ (.cells z7 28) hC1
   go_simp
   have hbA : Below z1.heap.size z1 (z1.alloc (.cells z7 28)) := bal
   have HDb := zh (heap_alloc_new z1 (.cells z7 28))
   have HDge := zh (hQb _ hC1).size
   clear hbA
   generalize z1.heap.size = D at *
   generalize z1.alloc (.cells z7 28) = z2 at *
   refine al1 7 ?_
   refine Or.inl ?_
   have hblk := HDb.out
   have p0 := Aa (j := 0) hblk rfl
   have q10 := Ab (j := 0) hblk
   have p1 := Aa (j := 1) hblk rfl
   have q11 := Ab (j := 1) hblk
   have p2 := Aa (j := 2) hblk rfl
   have q12 := Ab (j := 2) hblk
   have p3 := Aa (j := 3) hblk rfl
   have q13 := Ab (j := 3) hblk
   have p4 := Aa (j := 4) hblk rfl
   have q14 := Ab (j := 4) hblk
   have p5 := Aa (j := 5) hblk rfl
   have q15 := Ab (j := 5) hblk
   have p6 := Aa (j := 6) hblk rfl
   have q16 := Ab (j := 6) hblk
   have Hb7 := zh (Bz (v0 := .slice (fr b).sa (Af l b).store.length (fr b).sc) (v1 := .slice (fr b).ra (Af l b).refs.length (fr b).rc) (v2 := .int .i64 (Af l b).gen) (v3 := .int .i64 (Af l b).phase) (v4 := .slice (fr b).oa (Af l b).pend.objects.length (fr b).oc) (v5 := .slice (fr b).ua (Af l b).pend.updates.length (fr b).uc) (v6 := .bool (Af l b).pend.force) hblk)
   have Hu7 := zh (AY D (.slice (fr b).sa (Af l b).store.length (fr b).sc) (.slice (fr b).ra (Af l b).refs.length (fr b).rc) (.int .i64 (Af l b).gen) (.int .i64 (Af l b).phase) (.slice (fr b).oa (Af l b).pend.objects.length (fr b).oc) (.slice (fr b).ua (Af l b).pend.updates.length (fr b).uc) (.bool (Af l b).pend.force) z2)
   have hC3 := HQu.out _ _ _ hC2 Hu7.out (fun b hb => by have := HDge.out; have e2 : b = D := hb; omega)
   go_wp2_with fail
   first | refine ⟨by kernel_rfl, ?_⟩ | refine ⟨hC3, by kernel_rfl, ?_⟩
   have HEnd := zh (show In Q (Bt D (.slice (fr b).sa (Af l b).store.length (fr b).sc) (.slice (fr b).ra (Af l b).refs.length (fr b).rc) (.int .i64 (Af l b).gen) (.int .i64 (Af l b).phase) (.slice (fr b).oa (Af l b).pend.objects.length (fr b).oc) (.slice (fr b).ua (Af l b).pend.updates.length (fr b).uc) (.bool (Af l b).pend.force) z2) ∧ (Bt D (.slice (fr b).sa (Af l b).store.length (fr b).sc) (.slice (fr b).ra (Af l b).refs.length (fr b).rc) (.int .i64 (Af l b).gen) (.int .i64 (Af l b).phase) (.slice (fr b).oa (Af l b).pend.objects.length (fr b).oc) (.slice (fr b).ua (Af l b).pend.updates.length (fr b).uc) (.bool (Af l b).pend.force) z2).heap[D]? = some (.cells (c7 (Af l b) (fr b).sa (fr b).sc (fr b).ra (fr b).rc (fr b).oa (fr b).oc (fr b).ua (fr b).uc) 28 (0, 0)) from ⟨hC3, Hb7.out⟩)
   first | change Exit.then _ _ _ _ (Bt D (.slice (fr b).sa (Af l b).store.length (fr b).sc) (.slice (fr b).ra (Af l b).refs.length (fr b).rc) (.int .i64 (Af l b).gen) (.int .i64 (Af l b).phase) (.slice (fr b).oa (Af l b).pend.objects.length (fr b).oc) (.slice (fr b).ua (Af l b).pend.updates.length (fr b).uc) (.bool (Af l b).pend.force) z2) | change Exit.inBlock _ _ _ _ (Bt D (.slice (fr b).sa (Af l b).store.length (fr b).sc) (.slice (fr b).ra (Af l b).refs.length (fr b).rc) (.int .i64 (Af l b).gen) (.int .i64 (Af l b).phase) (.slice (fr b).oa (Af l b).pend.objects.length (fr b).oc) (.slice (fr b).ua (Af l b).pend.updates.length (fr b).uc) (.bool (Af l b).pend.force) z2) | skip
   generalize Bt D (.slice (fr b).sa (Af l b).store.length (fr b).sc) (.slice (fr b).ra (Af l b).refs.length (fr b).rc) (.int .i64 (Af l b).gen) (.int .i64 (Af l b).phase) (.slice (fr b).oa (Af l b).pend.objects.length (fr b).oc) (.slice (fr b).ua (Af l b).pend.updates.length (fr b).uc) (.bool (Af l b).pend.force) z2 = z3 at *
   go_wp2_with fail
   go_meet
   exact ⟨D, rfl, z3, rfl, HEnd⟩
  refine Or.inl ?_
  have hC1 := hQ.alloc _ (.cells z7 28) hC0
  go_simp
  have hbA : Below z0.heap.size z0 (z0.alloc (.cells z7 28)) := bal
  have HDb := zh (heap_alloc_new z0 (.cells z7 28))
  have HDge := zh (hQb _ hC0).size
  clear hbA
  generalize z0.heap.size = D at *
  generalize z0.alloc (.cells z7 28) = z1 at *
  refine al1 3 ?_
  refine Or.inl ?_
  go_wp2_with fail
  refine (HBe.out _ (HQR.out _ hC1)).mono ?_
  rintro e x21 ⟨rfl, hb9⟩
  have hC2 := hQn _ _ hC1 hb9
  replace HDb := zh (Ak HDb.out hb9)
  clear hb9
  generalize x21 = z2 at *
  go_simp
  refine tk 4 (.pointer (some ⟨b0, off0 + b * 7, none⟩)) (fun w hSw => ?_) hC2 ?_
  ·go_simp
  simp only [tkS]
  refine tk 5 (.agg (c7 (Af l b) (fr b).sa (fr b).sc (fr b).ra (fr b).rc (fr b).oa (fr b).oc (fr b).ua (fr b).uc)) (fun w hSw => ?_) hC2 ?_
  ·have y0 := g0 _ hSw; have y1 := g1 _ hSw; have y2 := g2 _ hSw; have y3 := g3 _ hSw; have y4 := g4 _ hSw; have y5 := g5 _ hSw; have y6 := g6 _ hSw; go_simp
  simp only [tkS]
  refine al1 7 ?_
  refine Or.inl ?_
  have hblk := HDb.out
  have p0 := Aa (j := 0) hblk rfl
  have q10 := Ab (j := 0) hblk
  have p1 := Aa (j := 1) hblk rfl
  have q11 := Ab (j := 1) hblk
  have p2 := Aa (j := 2) hblk rfl
  have q12 := Ab (j := 2) hblk
  have p3 := Aa (j := 3) hblk rfl
  have q13 := Ab (j := 3) hblk
  have p4 := Aa (j := 4) hblk rfl
  have q14 := Ab (j := 4) hblk
  have p5 := Aa (j := 5) hblk rfl
  have q15 := Ab (j := 5) hblk
  have p6 := Aa (j := 6) hblk rfl
  have q16 := Ab (j := 6) hblk
  have Hb7 := zh (Bz (v0 := .slice (fr b).sa (Af l b).store.length (fr b).sc) (v1 := .slice (fr b).ra (Af l b).refs.length (fr b).rc) (v2 := .int .i64 (Af l b).gen) (v3 := .int .i64 (Af l b).phase) (v4 := .slice (fr b).oa (Af l b).pend.objects.length (fr b).oc) (v5 := .slice (fr b).ua (Af l b).pend.updates.length (fr b).uc) (v6 := .bool (Af l b).pend.force) hblk)
  have Hu7 := zh (AY D (.slice (fr b).sa (Af l b).store.length (fr b).sc) (.slice (fr b).ra (Af l b).refs.length (fr b).rc) (.int .i64 (Af l b).gen) (.int .i64 (Af l b).phase) (.slice (fr b).oa (Af l b).pend.objects.length (fr b).oc) (.slice (fr b).ua (Af l b).pend.updates.length (fr b).uc) (.bool (Af l b).pend.force) z2)
  have hC3 := HQu.out _ _ _ hC2 Hu7.out (fun b hb => by have := HDge.out; have e2 : b = D := hb; omega)
  go_wp2_with fail
  first | refine ⟨by kernel_rfl, ?_⟩ | refine ⟨hC3, by kernel_rfl, ?_⟩
  have HEnd := zh (show In Q (Bt D (.slice (fr b).sa (Af l b).store.length (fr b).sc) (.slice (fr b).ra (Af l b).refs.length (fr b).rc) (.int .i64 (Af l b).gen) (.int .i64 (Af l b).phase) (.slice (fr b).oa (Af l b).pend.objects.length (fr b).oc) (.slice (fr b).ua (Af l b).pend.updates.length (fr b).uc) (.bool (Af l b).pend.force) z2) ∧ (Bt D (.slice (fr b).sa (Af l b).store.length (fr b).sc) (.slice (fr b).ra (Af l b).refs.length (fr b).rc) (.int .i64 (Af l b).gen) (.int .i64 (Af l b).phase) (.slice (fr b).oa (Af l b).pend.objects.length (fr b).oc) (.slice (fr b).ua (Af l b).pend.updates.length (fr b).uc) (.bool (Af l b).pend.force) z2).heap[D]? = some (.cells (c7 (Af l b) (fr b).sa (fr b).sc (fr b).ra (fr b).rc (fr b).oa (fr b).oc (fr b).ua (fr b).uc) 28 (0, 0)) from ⟨hC3, Hb7.out⟩)
  first | change Exit.then _ _ _ _ (Bt D (.slice (fr b).sa (Af l b).store.length (fr b).sc) (.slice (fr b).ra (Af l b).refs.length (fr b).rc) (.int .i64 (Af l b).gen) (.int .i64 (Af l b).phase) (.slice (fr b).oa (Af l b).pend.objects.length (fr b).oc) (.slice (fr b).ua (Af l b).pend.updates.length (fr b).uc) (.bool (Af l b).pend.force) z2) | change Exit.inBlock _ _ _ _ (Bt D (.slice (fr b).sa (Af l b).store.length (fr b).sc) (.slice (fr b).ra (Af l b).refs.length (fr b).rc) (.int .i64 (Af l b).gen) (.int .i64 (Af l b).phase) (.slice (fr b).oa (Af l b).pend.objects.length (fr b).oc) (.slice (fr b).ua (Af l b).pend.updates.length (fr b).uc) (.bool (Af l b).pend.force) z2) | skip
  generalize Bt D (.slice (fr b).sa (Af l b).store.length (fr b).sc) (.slice (fr b).ra (Af l b).refs.length (fr b).rc) (.int .i64 (Af l b).gen) (.int .i64 (Af l b).phase) (.slice (fr b).oa (Af l b).pend.objects.length (fr b).oc) (.slice (fr b).ua (Af l b).pend.updates.length (fr b).uc) (.bool (Af l b).pend.force) z2 = z3 at *
  go_wp2_with fail
  go_meet
  exact ⟨D, rfl, z3, rfl, HEnd⟩
 obtain ⟨D9, rfl, y9, rfl, HK9⟩ := hcut
 obtain ⟨hQ9, hb9⟩ := HK9.out
 have HDb := zh hb9
 have HR9 := zh (HQR.out _ hQ9)
 clear HK9 hb9 HBe d0 g0 g1 g2 g3 g4 g5 g6
 have x2 := Aa (j := 2) HDb.out rfl
 go_wp2_with fail
 refine (HI0.out _).mono ?_
 rintro e w4 ⟨rfl, rfl⟩
 clear HI0 x2
 obtain ⟨s0, hs0⟩ : ∃ s0, s0 = AS (Af l b).gen ++ Ph := ⟨_, rfl⟩
 rw [← hs0] at HsS Hds
 have Hs0 := zh hs0
 clear hs0
 go_wp2_with fail
 unfold c7 at HDb
 have Hre := zh (fun k (hk : k < (Af l b).refs.length) => Sk Hr.out hk)
 have Hsz := zh (fun k (hk : k ≤ (Af l b).refs.length) => IG Hr.out Hds.out k hk)
 generalize hrs : (Af l b).refs = rs at *
 clear hrs
 obtain ⟨T, hT, hT1, _⟩ := Ay y9
 have hTb := hT.below
 have hTn := hT.next
 have HTR := zh (fun x (hx : In T x) => hRn _ _ HR9.out (hTb _ hx))
 have HX := zh (fun x (hx : In T x) => Ak HDb.out (hTb _ hx))
 go_loopw [4, 5] (fun s i wr => ∃ k : Nat, k ≤ rs.length ∧ i = .int .i64 k ∧ s = .string (Dw rs s0 k) ∧ In T wr) (fun _ i _ => rs.length - (intOf i).toNat)
 case atStart => exact ⟨0, Nat.zero_le _, rfl, by rw [show Dw rs s0 0 = s0 from rfl, Hs0.out]; rfl, hT1⟩
 obtain ⟨k, hk, rfl, rfl, hTr⟩ := hrel
 obtain ⟨wo, rfl⟩ : ∃ wo : World, wo = wr := ⟨_, rfl⟩
 have x1 := Aa (j := 1) (HX.out _ hTr) rfl
 by_cases hlt : k < rs.length
 case neg =>
  obtain rfl : k = rs.length := by omega
  have HE := zh (hRb _ (HTR.out _ hTr))
  go_wp2_with fail
  go_ret
  exact ⟨by rw [HsS.out]; rfl, HE.out⟩
 have HnS := zh (show Dw rs s0 (k + 1) = Dw rs s0 k ++ ((rf rs k).name ++ OV ++ AS (rf rs k).id ++ Jg) from rfl)
 obtain ⟨hid, hnm, hm8⟩ := Hre.out k hlt
 have hsz := Hsz.out k hk
 have hdd := Dp hid.1 hid.2
 have HI1 := zh (fun (x : World) => Ee _ hid.1 (show (rf rs k).id < 1000 by omega) x)
 obtain ⟨ar, nr, capr, HNr, er, _, _, hr3, hr4, _⟩ := HRf.out.open
 obtain rfl : nr = rs.length := HNr.out
 obtain ⟨br, ofr, har, _, hrn, hri⟩ := hr4 (by omega)
 have hra : (fr b).ra = some ⟨br, ofr, none⟩ := by cases er; exact har
 have y0 := fun x (hx : In T x) => hrn k x hlt (hRb _ (HTR.out _ hx))
 have y1 := fun x (hx : In T x) => hri k x hlt (hRb _ (HTR.out _ hx))
 have hj1 : (0 : Int) ≤ (k : Int) := by omega
 have hj2 : (k : Int) < (rs.length : Int) := by omega
 generalize Dw rs s0 k = s at *
 generalize (rf rs k).name = nm at *
 generalize (rf rs k).id = id at *
 have Hra := zh hra
 clear er har HNr hrn hri hr3 hr4 hra
 have e1 := fun x (hx : In T x) => (show x.cell? ⟨D9, 1, none⟩ = some (.slice (some ⟨br, ofr, none⟩) rs.length (fr b).rc) from by have := Aa (j := 1) (HX.out x hx) rfl; rw [Hra.out] at this; exact this)
 have n1 : ¬ 9223372036854775807 < nm.size + 1 := by omega
 have n2 : ¬ 9223372036854775807 < nm.size + 1 + (AS id).size := by omega
 have n3 : ¬ 9223372036854775807 < nm.size + 1 + (AS id).size + 1 := by omega
 have n4 : ¬ 9223372036854775807 < s.size + (nm.size + 1 + (AS id).size + 1) := by omega
 go_upto_region 6 with fail
 clear x1
 generalize hdi : AS id = di at *
 clear hdi
 refine wp_region_held (S := In T) (by kernel_rfl) ?_
 change wpAnyH _ _ _ _ _ _ _ _ (World.drew _)
 have hC0 := hT.drew _ hTr
 generalize hx0 : wo.drew = z0 at hC0 ⊢
 clear hx0
 refine tk 0 (.string s) (fun w hSw => ?_) hC0 ?_
 ·go_simp
 simp only [tkS]
 refine tk 1 (.pointer (some ⟨D9, 1, none⟩)) (fun w hSw => ?_) hC0 ?_
 ·go_simp
 simp only [tkS]
 refine tk 2 (.slice (some ⟨br, ofr, none⟩) rs.length (fr b).rc) (fun w hSw => ?_) hC0 ?_
 ·have yy := e1 _ hSw; go_simp
 simp only [tkS]
 refine tk 3 (.int .i64 (k : Int)) (fun w hSw => ?_) hC0 ?_
 ·go_simp
 simp only [tkS]
 refine tk 4 (.pointer (some ⟨br, ofr + k * 2, none⟩)) (fun w hSw => ?_) hC0 ?_
 ·go_simp
 simp only [tkS]
 refine tk 5 (.pointer (some ⟨br, ofr + k * 2, none⟩)) (fun w hSw => ?_) hC0 ?_
 ·go_simp
 simp only [tkS]
 refine tk 6 (.string nm) (fun w hSw => ?_) hC0 ?_
 ·have yy := y0 _ hSw; go_simp
 simp only [tkS]
 refine tk 7 (.string (nm ++ OV)) (fun w hSw => ?_) hC0 ?_
 ·show _ = Result.ok (Next.value (Value.string (nm ++ (⟨#[61]⟩ : ByteArray)))) w; go_simp
 simp only [tkS]
 refine tk 8 (.pointer (some ⟨D9, 1, none⟩)) (fun w hSw => ?_) hC0 ?_
 ·go_simp
 simp only [tkS]
 refine tk 9 (.slice (some ⟨br, ofr, none⟩) rs.length (fr b).rc) (fun w hSw => ?_) hC0 ?_
 ·have yy := e1 _ hSw; go_simp
 simp only [tkS]
 refine tk 10 (.int .i64 (k : Int)) (fun w hSw => ?_) hC0 ?_
 ·go_simp
 simp only [tkS]
 refine tk 11 (.pointer (some ⟨br, ofr + k * 2, none⟩)) (fun w hSw => ?_) hC0 ?_
 ·go_simp
 simp only [tkS]
 refine tk 12 (.pointer (some ⟨br, ofr + k * 2 + 1, none⟩)) (fun w hSw => ?_) hC0 ?_
 ·go_simp
 simp only [tkS]
 refine tk 13 (.int .i64 id) (fun w hSw => ?_) hC0 ?_
 ·have yy := y1 _ hSw; go_simp
 simp only [tkS]
 refine al1 14 ?_
 refine Or.inl ?_
 go_wp2_with fail
 refine (HI1.out _).mono ?_
 rintro e x20 ⟨rfl, rfl⟩
 go_simp
 refine tk 15 (.string (nm ++ OV ++ di)) (fun w hSw => ?_) hC0 ?_
 ·have e9 : (nm ++ OV).size = nm.size + 1 := (by rw [ByteArray.size_append]; rfl); go_simp
 simp only [tkS]
 refine tk 16 (.string (nm ++ OV ++ di ++ Jg)) (fun w hSw => ?_) hC0 ?_
 ·have e7 : (⟨#[59]⟩ : ByteArray) = Jg := rfl; have e8 : Jg.size = 1 := (by decide +kernel); have e9 : (nm ++ OV ++ di).size = nm.size + 1 + di.size := (by rw [ByteArray.size_append, ByteArray.size_append]; rfl); go_simp
 simp only [tkS]
 refine tk 17 (.string (s ++ (nm ++ OV ++ di ++ Jg))) (fun w hSw => ?_) hC0 ?_
 ·have e9 : (nm ++ OV ++ di ++ Jg).size = nm.size + 1 + di.size + 1 := (by rw [ByteArray.size_append, ByteArray.size_append, ByteArray.size_append]; rfl); go_simp
 simp only [tkS]
 refine tk 18 (.string (s ++ (nm ++ OV ++ di ++ Jg))) (fun w hSw => ?_) hC0 ?_
 ·go_simp
 simp only [tkS]
 refine wpAnyH_done (by kernel_rfl) ?_ _
 go_wp2_with fail
 go_roundw
 case rel => exact ⟨k + 1, by omega, by go_num, by rw [HnS.out], hC0⟩
 case measure => simp [intOf]; omega
end Go.Proofs.YtjdgpgfiomnjkaaGreatDoor
