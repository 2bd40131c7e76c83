
/- ClusF: walk of cluster.leader.finish. -/
import Derived.Test.YtjdgpgfiomnjkaaGreatDoorM18
import Derived.Deep.DeepCutAuto
namespace Go.Proofs.YtjdgpgfiomnjkaaGreatDoor
open Go.RowKit
set_option linter.unusedVariables false
set_option linter.unusedSimpArgs false
def doneE (L : List Rep) (vs : List ByteArray) (y : Nat → Bool) (i : Nat) : Int := if (sa vs i).toList = [] then 0 else finE (rep L i) (y i)
def doneTo (L : List Rep) (vs : List ByteArray) (y : Nat → Bool) : Nat → List Rep
 | 0 => L
 | k + 1 => if (sa vs k).toList = [] then doneTo L vs y k else (doneTo L vs y k).set k (finR (rep L k) (y k))
theorem doneTo_length (L : List Rep) (vs : List ByteArray) (y : Nat → Bool) : ∀ k, (doneTo L vs y k).length = L.length
 | 0 => rfl
 | k + 1 => by unfold doneTo; split; exact doneTo_length L vs y k; rw [List.length_set]; exact doneTo_length L vs y k
theorem doneTo_ge (L : List Rep) (vs : List ByteArray) (y : Nat → Bool) : ∀ k j, k ≤ j → j < L.length → rep (doneTo L vs y k) j = rep L j
 | 0, _, _, _ => rfl
 | k + 1, j, h, hj => by
  unfold doneTo
  split
  ·exact doneTo_ge L vs y k j (by omega) hj
  ·rw [rep_set (by rw [doneTo_length]; exact hj), if_neg (by omega)]; exact doneTo_ge L vs y k j (by omega) hj
set_option maxRecDepth 100000 in
set_option maxHeartbeats 16000000 in
theorem finish_gen (g c M B gf : Nat) (caps : Array Value) (y : Nat → Bool) (Bx : World → Prop) (w : World) (L : List Rep) (vs : List ByteArray) (t : ByteArray) (hM : LeadAt B g c M w L vs t) (h3 : L.length = 3) (hv3 : vs.length = 3) (hBM : B ≤ M)
  (eg : ∀ args w, (callFunc gf args).run Tryz.prog w = .ok (.enter gf args) w) (hb0 : Bx w) (hbb : ∀ x z, Bx x → Below x.heap.size x z → Bx z) (hbg : ∀ x z, Bx x → Upd (fun b => b = g) x z → Bx z)
  (hY : ∀ x k L2, k < 3 → Bx x → LeadAt B g c M x L2 vs t → Calls Tryz.prog gf (#[.int .i64 (k : Int)] ++ caps) x fun e z => e = .returned (.bool (y k)) ∧ Below x.heap.size x z) :
  Calls Tryz.prog 220 #[.pointer (some ⟨M, 0, none⟩), .func (.func gf) #[] caps] w fun e w' => e = .returned (.int .i64 (scan (doneE L vs y) 3)) ∧ Below B w w' ∧
   (scan (doneE L vs y) 3 = 0 → LeadAt B g c M w' (doneTo L vs y 3) vs t) := by
 have HYg := Lib.hid hY
 have HBb := Lib.hid hbb
 have HBg := Lib.hid hbg
 have HB00 := Lib.hid hb0
 clear hY hbb hbg hb0
 have H3 := Lib.hid h3
 have Hv3 := Lib.hid hv3
 have HM := Lib.hid hM
 obtain ⟨F0, vv0, hO0, hV0, hF0, hvM0, hvg0, hgM0, hMb0⟩ := hM
 have hMs : M < w.heap.size := lt_of_block hMb0
 have hgs := hO0.block rfl
 have hvs := hV0.strs (by omega)
 obtain ⟨va, vn, vc, HNv, hvv, hv1, hv2, hv4, hv5⟩ := hvs.open
 subst hvv
 obtain ⟨vb, vo, rfl, _, hv6⟩ := hv5 (by have := HNv.out; omega)
 have m1 := block_cell (j := 1) hMb0 rfl
 have HHv := Lib.hid hv6
 have Hvg := Lib.hid (show vb ≠ g from fun e => hvg0 (by rw [e]; rfl))
 clear h3 hv3 hO0 hV0 hF0 hvM0 hvg0 hgM0 hMb0 hvs hv1 hv2 hv4 hv5 hv6 
 rw [Hv3.out] at HNv
 obtain rfl : vn = 3 := HNv.out
 clear HNv
 simp only [List.getElem_toArray, List.getElem_cons_zero, List.getElem_cons_succ] at m1
 have HLs := Lib.hid (fun k (h : scan (doneE L vs y) k = 0) (hk : k < 3) (e : Int) (he : doneE L vs y k = e) (hne : e ≠ 0) => (scan_hit (f := doneE L vs y) h (by rw [he]; exact hne) hk).trans he)
 go_enter Tryz.func220, Tryz.ntmps220
 go_wp2_with fail
 go_loopw [14] (fun a wr => ∃ k : Nat, k ≤ 3 ∧ a = .int .i64 k ∧ Hid (scan (doneE L vs y) k = 0) ∧ Hid (LeadAt B g c M wr (doneTo L vs y k) vs t ∧ Below B w wr ∧ w.heap.size ≤ wr.heap.size ∧ (∀ i, i < 3 → wr.cell? ⟨vb, vo + i, none⟩ = some (.string (sa vs i))) ∧ Bx wr)) (fun a _ => 3 - (intOf a).toNat)
 case atStart => exact ⟨0, by omega, rfl, rfl, HM.out, Below.refl _ _, Nat.le_refl _, fun i hi => HHv.out i _ hi (Below.refl _ _), HB00.out⟩
 case round =>
  obtain ⟨k, hk, rfl, Hs, HI⟩ := hrel
  clear m1 HM HHv
  by_cases hlt : k < 3
  case neg =>
   obtain rfl : k = 3 := by omega
   have HI2 := Lib.hid (And.intro Hs.out HI.out)
   go_wp2_with fail
   go_ret
   exact ⟨ret_int HI2.out.1.symm, HI2.out.2.2.1, fun _ => HI2.out.2.1⟩
  case pos =>
   have hvk := HI.out.2.2.2.1 k hlt
   have hi1 : (0 : Int) ≤ (k : Int) := by omega
   have hi2 : (k : Int) < 3 := by omega
   have HnT := Lib.hid (show doneTo L vs y (k + 1) = if (sa vs k).toList = [] then doneTo L vs y k else (doneTo L vs y k).set k (finR (rep L k) (y k)) from rfl)
   have HnE := Lib.hid (show doneE L vs y k = if (sa vs k).toList = [] then 0 else finE (rep L k) (y k) from rfl)
   by_cases he : (sa vs k).toList = []
   case pos =>
    have q1 : ((sa vs k).toList == []) = true := by simpa using he
    rw [if_pos he] at HnT HnE
    have Hs2 := Lib.hid (show scan (doneE L vs y) (k + 1) = 0 from scan_next Hs.out HnE.out)
    have HI2 := Lib.hid (show LeadAt B g c M wr (doneTo L vs y (k + 1)) vs t ∧ _ from ⟨by rw [HnT.out]; exact HI.out.1, HI.out.2⟩)
    clear he
    generalize sa vs k = s at *
    go_wp2_with fail
    go_roundw
    case rel => exact ⟨k + 1, by omega, by go_num, Hs2.out, HI2.out⟩
    case measure => simp [intOf]; omega
   case neg =>
    have q1 : ((sa vs k).toList == []) = false := by simpa using he
    rw [if_neg he] at HnT HnE
    clear he
    have HLd := Lib.hid HI.out.1
    obtain ⟨⟨F, vv, hO, hV, hF, hvM, hvg, hgM, hMb⟩, hBw, hwz, hvc, hbx⟩ := HI.out
    have HLl := Lib.hid ((doneTo_length L vs y k).trans H3.out)
    have hrk := doneTo_ge L vs y k k (Nat.le_refl _) (by rw [H3.out]; exact hlt)
    obtain ⟨sa0, sc0, ra0, rc0, oa0, oc0, ua0, uc0, h5k, hK⟩ := hO.one (by rw [HLl.out]; omega) (show k < (doneTo L vs y k).length by rw [HLl.out]; exact hlt)
    rw [hrk] at h5k hK
    rw [HLl.out] at hMb
    obtain ⟨wo, rfl⟩ : ∃ wo : World, wo = wr := ⟨_, rfl⟩
    generalize hL2 : doneTo L vs y k = L2 at *
    clear hL2 hrk
    have hMw : M < wo.heap.size := lt_of_block hMb
    have hgw : g < wo.heap.size := (hO.block rfl).2
    have hgB : B ≤ g := (hO.block rfl).1
    obtain ⟨Q, hQ, hQ0, hQu⟩ := cls_newer wo
    have hQb := hQ.below
    have hQn := hQ.next
    have HQu := Lib.hid hQu
    clear hQu
    have c0 := fun x (hx : In Q x) => show x.cell? ⟨M, 0, none⟩ = some (.slice (some ⟨g, 0, none⟩) 3 c) from below_cell (hQb _ hx) (block_cell (j := 0) hMb rfl)
    have e0 := fun x (hx : In Q x) => show x.cell? ⟨g, k * 7, none⟩ = some (.slice sa0 (rep L k).store.length sc0) from (hK x (hQb _ hx)).1
    have e1 := fun x (hx : In Q x) => show x.cell? ⟨g, k * 7 + 1, none⟩ = some (.slice ra0 (rep L k).refs.length rc0) from (hK x (hQb _ hx)).2.1
    have e2 := fun x (hx : In Q x) => show x.cell? ⟨g, k * 7 + 2, none⟩ = some (.int .i64 (rep L k).gen) from (hK x (hQb _ hx)).2.2.1
    have e3 := fun x (hx : In Q x) => show x.cell? ⟨g, k * 7 + 3, none⟩ = some (.int .i64 (rep L k).phase) from (hK x (hQb _ hx)).2.2.2.1
    have e4 := fun x (hx : In Q x) => show x.cell? ⟨g, k * 7 + 4, none⟩ = some (.slice oa0 (rep L k).pend.objects.length oc0) from (hK x (hQb _ hx)).2.2.2.2.1
    have e5 := fun x (hx : In Q x) => show x.cell? ⟨g, k * 7 + 5, none⟩ = some (.slice ua0 (rep L k).pend.updates.length uc0) from (hK x (hQb _ hx)).2.2.2.2.2.1
    have e6 := fun x (hx : In Q x) => show x.cell? ⟨g, k * 7 + 6, none⟩ = some (.bool (rep L k).pend.force) from (hK x (hQb _ hx)).2.2.2.2.2.2
    have HR := Lib.hid (fun x (hx : In Q x) => finish_any (rep L k) (y k) _ _ _ _ _ x (h5k.below (hQb _ hx)))
    simp only [repV] at HR
    have HY := Lib.hid (fun x (hx : In Q x) => HYg.out x k _ hlt (HBb.out _ _ hbx (hQb _ hx)) (HLd.out.below (hQb _ hx)))
    have HBo := Lib.hid hbx
    clear hbx HLd
    have HO := Lib.hid hO
    have HV := Lib.hid hV
    have HF := Lib.hid hF
    have HvM := Lib.hid hvM
    have Hvgg := Lib.hid hvg
    have HgM := Lib.hid hgM
    have HMb := Lib.hid hMb
    have HBw := Lib.hid hBw
    have HKk := Lib.hid hK
    have Hvc := Lib.hid hvc
    have Hwz := Lib.hid hwz
    clear hO hV hF hvM hvg hgM hMb hBw h5k hK HI hvc hwz 
    generalize hrr : finR (rep L k) (y k) = rr at *
    generalize hfe : finE (rep L k) (y k) = fe at *
    generalize y k = yk at *
    generalize sa vs k = s at *
    clear hrr hfe
    go_upto_region 5 with fail
    go_cut [7, 8] (fun s7 s8 wx => ∃ D9, s7 = .pointer (some ⟨D9, 0, none⟩) ∧ s8 = .int .i64 fe ∧ ∃ y9, y9 = wx ∧ Hid (In Q y9 ∧ wo.heap.size ≤ D9 ∧ ∃ sa1 sc1 ra1 rc1 oa1 oc1 ua1 uc1, y9.heap[D9]? = some (.cells #[.slice sa1 rr.store.length sc1, .slice ra1 rr.refs.length rc1, .int .i64 rr.gen, .int .i64 rr.phase, .slice oa1 rr.pend.objects.length oc1, .slice ua1 rr.pend.updates.length uc1, .bool rr.pend.force] 28 (0, 0)) ∧ RepIs (fun b => (wo.heap.size ≤ b ∧ b < y9.heap.size) ∧ b ≠ D9) y9 rr (.slice sa1 rr.store.length sc1) (.slice ra1 rr.refs.length rc1) (.slice oa1 rr.pend.objects.length oc1) (.slice ua1 rr.pend.updates.length uc1)))
    case first =>
     clear hvk
     refine wp_region_held (S := In Q) (by kernel_rfl) ?_
     change wpAnyH _ _ _ _ _ _ _ _ (World.drew _)
     have hC0 := hQ.drew _ hQ0
     generalize wo.drew = x0 at hC0 ⊢
     refine wpAnyH_take (i := 0) (v := .pointer (some ⟨M, 0, none⟩)) rfl (by kernel_rfl) (by kernel_rfl) (by kernel_rfl) (fun _ _ _ h => h) (Or.inl ⟨by rfl, fun w hSw => ?_⟩) hC0 ?_
     ·go_simp
     simp only [Act.put, List.getElem_toArray, List.getElem_cons_zero, List.getElem_cons_succ, List.setIfInBounds_toArray, List.set_cons_zero, List.set_cons_succ]
     refine wpAnyH_take (i := 1) (v := .pointer (some ⟨M, 0, none⟩)) rfl (by kernel_rfl) (by kernel_rfl) (by kernel_rfl) (fun _ _ _ h => h) (Or.inl ⟨by rfl, fun w hSw => ?_⟩) hC0 ?_
     ·go_simp
     simp only [Act.put, List.getElem_toArray, List.getElem_cons_zero, List.getElem_cons_succ, List.setIfInBounds_toArray, List.set_cons_zero, List.set_cons_succ]
     refine wpAnyH_take (i := 2) (v := .pointer (some ⟨M, 0, none⟩)) rfl (by kernel_rfl) (by kernel_rfl) (by kernel_rfl) (fun _ _ _ h => h) (Or.inl ⟨by rfl, fun w hSw => ?_⟩) hC0 ?_
     ·go_simp
     simp only [Act.put, List.getElem_toArray, List.getElem_cons_zero, List.getElem_cons_succ, List.setIfInBounds_toArray, List.set_cons_zero, List.set_cons_succ]
     refine wpAnyH_take (i := 3) (v := .pointer (some ⟨M, 0, none⟩)) rfl (by kernel_rfl) (by kernel_rfl) (by kernel_rfl) (fun _ _ _ h => h) (Or.inl ⟨by rfl, fun w hSw => ?_⟩) hC0 ?_
     ·go_simp
     simp only [Act.put, List.getElem_toArray, List.getElem_cons_zero, List.getElem_cons_succ, List.setIfInBounds_toArray, List.set_cons_zero, List.set_cons_succ]
     refine wpAnyH_take (i := 4) (v := .slice (some ⟨g, 0, none⟩) 3 c) rfl (by kernel_rfl) (by kernel_rfl) (by kernel_rfl) (fun _ _ _ h => h) (Or.inl ⟨by rfl, fun w hSw => ?_⟩) hC0 ?_
     ·have yy := c0 _ hSw; go_simp
     simp only [Act.put, List.getElem_toArray, List.getElem_cons_zero, List.getElem_cons_succ, List.setIfInBounds_toArray, List.set_cons_zero, List.set_cons_succ]
     refine wpAnyH_take (i := 5) (v := .int .i64 (k : Int)) rfl (by kernel_rfl) (by kernel_rfl) (by kernel_rfl) (fun _ _ _ h => h) (Or.inl ⟨by rfl, fun w hSw => ?_⟩) hC0 ?_
     ·go_simp
     simp only [Act.put, List.getElem_toArray, List.getElem_cons_zero, List.getElem_cons_succ, List.setIfInBounds_toArray, List.set_cons_zero, List.set_cons_succ]
     refine wpAnyH_take (i := 6) (v := .pointer (some ⟨g, k * 7, none⟩)) rfl (by kernel_rfl) (by kernel_rfl) (by kernel_rfl) (fun _ _ _ h => h) (Or.inl ⟨by rfl, fun w hSw => ?_⟩) hC0 ?_
     ·go_simp
     simp only [Act.put, List.getElem_toArray, List.getElem_cons_zero, List.getElem_cons_succ, List.setIfInBounds_toArray, List.set_cons_zero, List.set_cons_succ]
     refine wpAnyH_take (i := 7) (v := .agg #[.slice sa0 (rep L k).store.length sc0, .slice ra0 (rep L k).refs.length rc0, .int .i64 (rep L k).gen, .int .i64 (rep L k).phase, .slice oa0 (rep L k).pend.objects.length oc0, .slice ua0 (rep L k).pend.updates.length uc0, .bool (rep L k).pend.force]) rfl (by kernel_rfl) (by kernel_rfl) (by kernel_rfl) (fun _ _ _ h => h) (Or.inl ⟨by rfl, fun w hSw => ?_⟩) hC0 ?_
     ·have y0 := e0 _ hSw; have y1 := e1 _ hSw; have y2 := e2 _ hSw; have y3 := e3 _ hSw; have y4 := e4 _ hSw; have y5 := e5 _ hSw; have y6 := e6 _ hSw; go_simp
     simp only [Act.put, List.getElem_toArray, List.getElem_cons_zero, List.getElem_cons_succ, List.setIfInBounds_toArray, List.set_cons_zero, List.set_cons_succ]
     refine wpAnyH_take (i := 8) (v := .func (.func gf) #[] caps) rfl (by kernel_rfl) (by kernel_rfl) (by kernel_rfl) (fun _ _ _ h => h) (Or.inl ⟨by rfl, fun w hSw => ?_⟩) hC0 ?_
     ·go_simp
     simp only [Act.put, List.getElem_toArray, List.getElem_cons_zero, List.getElem_cons_succ, List.setIfInBounds_toArray, List.set_cons_zero, List.set_cons_succ]
     refine wpAnyH_take (i := 9) (v := .int .i64 (k : Int)) rfl (by kernel_rfl) (by kernel_rfl) (by kernel_rfl) (fun _ _ _ h => h) (Or.inl ⟨by rfl, fun w hSw => ?_⟩) hC0 ?_
     ·go_simp
     simp only [Act.put, List.getElem_toArray, List.getElem_cons_zero, List.getElem_cons_succ, List.setIfInBounds_toArray, List.set_cons_zero, List.set_cons_succ]
     refine wpAnyH_all (rs := [10, 15]) (by kernel_rfl) (by simp) (fun j hj => ?_)
     rcases List.mem_cons.1 hj with rfl | hj
     ·skip
      refine Or.inl ?_
      go_wp2_with fail
      refine (HY.out _ hC0).mono ?_
      rintro e x10 ⟨rfl, hb0⟩
      have hC1 := hQn _ _ hC0 (hb0.mono (by first | exact Nat.le_refl _ | omega))
      generalize x10 = x1 at *
      clear hb0
      go_simp
      refine wpAnyH_all (rs := [11, 15]) (by kernel_rfl) (by simp) (fun j hj => ?_)
      rcases List.mem_cons.1 hj with rfl | hj
      ·skip
       refine Or.inl ?_
       go_wp2_with fail
       refine (HR.out _ hC1).mono ?_
       rintro e x11 ⟨sv1, rv1, ov1, uv1, rfl, hv, hb1⟩
       have hC2 := hQn _ _ hC1 hb1
       obtain ⟨sa1, sc1, rfl⟩ := hv.store.vshape
       obtain ⟨⟨ra1, rc1⟩, rfl⟩ := hv.refs.shape
       obtain ⟨oa1, oc1, rfl⟩ := hv.objs.vshape
       obtain ⟨⟨ua1, uc1⟩, rfl⟩ := hv.upds.shape
       have hx0 := (hQb _ hC1).size
       have Hv := Lib.hid (hv.lt.weaken (S' := fun b => wo.heap.size ≤ b ∧ b < x11.heap.size) fun b hb => ⟨by have := hb.1; omega, hb.2⟩)
       clear hv
       simp only [repV]
       go_simp
       clear hb1
       generalize x11 = x2 at *
       refine wpAnyH_take (i := 12) (v := .tuple #[.agg #[.slice sa1 rr.store.length sc1, .slice ra1 rr.refs.length rc1, .int .i64 rr.gen, .int .i64 rr.phase, .slice oa1 rr.pend.objects.length oc1, .slice ua1 rr.pend.updates.length uc1, .bool rr.pend.force], .int .i64 fe]) rfl (by kernel_rfl) (by kernel_rfl) (by kernel_rfl) (fun _ _ _ h => h) (Or.inl ⟨by rfl, fun w hSw => ?_⟩) hC2 ?_
       ·go_simp
       simp only [Act.put, List.getElem_toArray, List.getElem_cons_zero, List.getElem_cons_succ, List.setIfInBounds_toArray, List.set_cons_zero, List.set_cons_succ]
       refine wpAnyH_take (i := 13) (v := .agg #[.slice sa1 rr.store.length sc1, .slice ra1 rr.refs.length rc1, .int .i64 rr.gen, .int .i64 rr.phase, .slice oa1 rr.pend.objects.length oc1, .slice ua1 rr.pend.updates.length uc1, .bool rr.pend.force]) rfl (by kernel_rfl) (by kernel_rfl) (by kernel_rfl) (fun _ _ _ h => h) (Or.inl ⟨by rfl, fun w hSw => ?_⟩) hC2 ?_
       ·go_simp
       simp only [Act.put, List.getElem_toArray, List.getElem_cons_zero, List.getElem_cons_succ, List.setIfInBounds_toArray, List.set_cons_zero, List.set_cons_succ]
       refine wpAnyH_take (i := 14) (v := .int .i64 fe) rfl (by kernel_rfl) (by kernel_rfl) (by kernel_rfl) (fun _ _ _ h => h) (Or.inl ⟨by rfl, fun w hSw => ?_⟩) hC2 ?_
       ·go_simp
       simp only [Act.put, List.getElem_toArray, List.getElem_cons_zero, List.getElem_cons_succ, List.setIfInBounds_toArray, List.set_cons_zero, List.set_cons_succ]
       refine wpAnyH_all (rs := [15]) (by kernel_rfl) (by simp) (fun j hj => ?_)
       obtain rfl : j = 15 := by simpa using hj
       refine Or.inl ?_
       have Hv2 := Lib.hid ((Hv.out.below ((Below.refl _ _).alloc (Nat.le_refl _) (.cells #[.slice none 0 0, .slice none 0 0, .int .i64 0, .int .i64 0, .slice none 0 0, .slice none 0 0, .bool false] 28))).weaken (S' := fun b => (wo.heap.size ≤ b ∧ b < (x2.alloc (.cells #[.slice none 0 0, .slice none 0 0, .int .i64 0, .int .i64 0, .slice none 0 0, .slice none 0 0, .bool false] 28)).heap.size) ∧ b ≠ x2.heap.size) fun b hb => ⟨⟨hb.1, by simp; omega⟩, by omega⟩)
       clear Hv
       have hC3 := hQ.alloc _ (.cells #[.slice none 0 0, .slice none 0 0, .int .i64 0, .int .i64 0, .slice none 0 0, .slice none 0 0, .bool false] 28) hC2
       go_simp
       have hbA : Below x2.heap.size x2 (x2.alloc (.cells #[.slice none 0 0, .slice none 0 0, .int .i64 0, .int .i64 0, .slice none 0 0, .slice none 0 0, .bool false] 28)) := (Below.refl _ _).alloc (Nat.le_refl _) _
       have HDb := Lib.hid (heap_alloc_new x2 (.cells #[.slice none 0 0, .slice none 0 0, .int .i64 0, .int .i64 0, .slice none 0 0, .slice none 0 0, .bool false] 28))
       have HDge := Lib.hid (hQb _ hC2).size
       clear hbA
       generalize x2.heap.size = D at *
       generalize x2.alloc (.cells #[.slice none 0 0, .slice none 0 0, .int .i64 0, .int .i64 0, .slice none 0 0, .slice none 0 0, .bool false] 28) = x3 at *
       refine wpAnyH_all (rs := [16]) (by kernel_rfl) (by simp) (fun j hj => ?_)
       obtain rfl : j = 16 := by simpa using hj
       refine Or.inl ?_
       have hblk := HDb.out
       have g0 := block_cell (j := 0) hblk rfl
       have g1 := block_cell (j := 1) hblk rfl
       have g2 := block_cell (j := 2) hblk rfl
       have g3 := block_cell (j := 3) hblk rfl
       have g4 := block_cell (j := 4) hblk rfl
       have g5 := block_cell (j := 5) hblk rfl
       have g6 := block_cell (j := 6) hblk rfl
       have f0 := block_free (j := 0) hblk
       have f1 := block_free (j := 1) hblk
       have f2 := block_free (j := 2) hblk
       have f3 := block_free (j := 3) hblk
       have f4 := block_free (j := 4) hblk
       have f5 := block_free (j := 5) hblk
       have f6 := block_free (j := 6) hblk
       have Hb7 := Lib.hid (set7_is (v0 := .slice sa1 rr.store.length sc1) (v1 := .slice ra1 rr.refs.length rc1) (v2 := .int .i64 rr.gen) (v3 := .int .i64 rr.phase) (v4 := .slice oa1 rr.pend.objects.length oc1) (v5 := .slice ua1 rr.pend.updates.length uc1) (v6 := .bool rr.pend.force) hblk)
       have Hu7 := Lib.hid (set7_upd D (.slice sa1 rr.store.length sc1) (.slice ra1 rr.refs.length rc1) (.int .i64 rr.gen) (.int .i64 rr.phase) (.slice oa1 rr.pend.objects.length oc1) (.slice ua1 rr.pend.updates.length uc1) (.bool rr.pend.force) x3)
       have hQ7 := HQu.out _ _ _ hC3 Hu7.out (fun b hb => by have := HDge.out; have e2 : b = D := hb; omega)
       have Hv7 := Lib.hid ((Hv2.out.upd Hu7.out (fun b hb e => hb.2 e)).weaken (S' := fun b => (wo.heap.size ≤ b ∧ b < (set7 D (.slice sa1 rr.store.length sc1) (.slice ra1 rr.refs.length rc1) (.int .i64 rr.gen) (.int .i64 rr.phase) (.slice oa1 rr.pend.objects.length oc1) (.slice ua1 rr.pend.updates.length uc1) (.bool rr.pend.force) x3).heap.size) ∧ b ≠ D) fun b hb => ⟨⟨hb.1.1, by have := hb.1.2; have := Hu7.out.size; omega⟩, hb.2⟩)
       go_wp2_with fail
       first | refine ⟨hQ7, ?_⟩ | skip
       change wpAnyH _ _ _ _ _ _ _ _ (set7 D (.slice sa1 rr.store.length sc1) (.slice ra1 rr.refs.length rc1) (.int .i64 rr.gen) (.int .i64 rr.phase) (.slice oa1 rr.pend.objects.length oc1) (.slice ua1 rr.pend.updates.length uc1) (.bool rr.pend.force) x3)
       generalize set7 D (.slice sa1 rr.store.length sc1) (.slice ra1 rr.refs.length rc1) (.int .i64 rr.gen) (.int .i64 rr.phase) (.slice oa1 rr.pend.objects.length oc1) (.slice ua1 rr.pend.updates.length uc1) (.bool rr.pend.force) x3 = w7 at *
       clear g0 g1 g2 g3 g4 g5 g6 f0 f1 f2 f3 f4 f5 f6 hblk Hu7
       refine wpAnyH_all (rs := [17]) (by kernel_rfl) (by simp) (fun j hj => ?_)
       obtain rfl : j = 17 := by simpa using hj
       refine Or.inl ?_
       go_wp2_with fail
       first | refine ⟨hQ7, by kernel_rfl, ?_⟩ | refine ⟨by kernel_rfl, ?_⟩
       have HEnd := Lib.hid (show In Q w7 ∧ wo.heap.size ≤ D ∧ ∃ sa1 sc1 ra1 rc1 oa1 oc1 ua1 uc1, w7.heap[D]? = some (.cells #[.slice sa1 rr.store.length sc1, .slice ra1 rr.refs.length rc1, .int .i64 rr.gen, .int .i64 rr.phase, .slice oa1 rr.pend.objects.length oc1, .slice ua1 rr.pend.updates.length uc1, .bool rr.pend.force] 28 (0, 0)) ∧ RepIs (fun b => (wo.heap.size ≤ b ∧ b < w7.heap.size) ∧ b ≠ D) w7 rr (.slice sa1 rr.store.length sc1) (.slice ra1 rr.refs.length rc1) (.slice oa1 rr.pend.objects.length oc1) (.slice ua1 rr.pend.updates.length uc1) from ⟨hQ7, HDge.out, sa1, sc1, ra1, rc1, oa1, oc1, ua1, uc1, Hb7.out, Hv7.out⟩)
       go_wp2_with fail
       go_meet
       exact ⟨D, rfl, rfl, w7, rfl, HEnd⟩
      ·skip
       obtain rfl : j = 15 := by simpa using hj
       refine Or.inl ?_
       have hC2 := hQ.alloc _ (.cells #[.slice none 0 0, .slice none 0 0, .int .i64 0, .int .i64 0, .slice none 0 0, .slice none 0 0, .bool false] 28) hC1
       go_simp
       have hbA : Below x1.heap.size x1 (x1.alloc (.cells #[.slice none 0 0, .slice none 0 0, .int .i64 0, .int .i64 0, .slice none 0 0, .slice none 0 0, .bool false] 28)) := (Below.refl _ _).alloc (Nat.le_refl _) _
       have HDb := Lib.hid (heap_alloc_new x1 (.cells #[.slice none 0 0, .slice none 0 0, .int .i64 0, .int .i64 0, .slice none 0 0, .slice none 0 0, .bool false] 28))
       have HDge := Lib.hid (hQb _ hC1).size
       clear hbA
       generalize x1.heap.size = D at *
       generalize x1.alloc (.cells #[.slice none 0 0, .slice none 0 0, .int .i64 0, .int .i64 0, .slice none 0 0, .slice none 0 0, .bool false] 28) = x2 at *
       refine wpAnyH_all (rs := [11]) (by kernel_rfl) (by simp) (fun j hj => ?_)
       obtain rfl : j = 11 := by simpa using hj
       refine Or.inl ?_
       go_wp2_with fail
       refine (HR.out _ hC2).mono ?_
       rintro e x12 ⟨sv1, rv1, ov1, uv1, rfl, hv, hb1⟩
       have hC3 := hQn _ _ hC2 hb1
       obtain ⟨sa1, sc1, rfl⟩ := hv.store.vshape
       obtain ⟨⟨ra1, rc1⟩, rfl⟩ := hv.refs.shape
       obtain ⟨oa1, oc1, rfl⟩ := hv.objs.vshape
       obtain ⟨⟨ua1, uc1⟩, rfl⟩ := hv.upds.shape
       have HDx := Lib.hid (show D < x2.heap.size from lt_of_block HDb.out)
       replace HDb := Lib.hid (blk_below HDb.out hb1)
       have hx0 := (hQb _ hC2).size
       have Hv2 := Lib.hid (hv.lt.weaken (S' := fun b => (wo.heap.size ≤ b ∧ b < x12.heap.size) ∧ b ≠ D) fun b hb => ⟨⟨by have := hb.1; omega, hb.2⟩, fun e => by have := HDx.out; have := hb.1; omega⟩)
       clear hv
       simp only [repV]
       go_simp
       clear hb1
       generalize x12 = x3 at *
       refine wpAnyH_take (i := 12) (v := .tuple #[.agg #[.slice sa1 rr.store.length sc1, .slice ra1 rr.refs.length rc1, .int .i64 rr.gen, .int .i64 rr.phase, .slice oa1 rr.pend.objects.length oc1, .slice ua1 rr.pend.updates.length uc1, .bool rr.pend.force], .int .i64 fe]) rfl (by kernel_rfl) (by kernel_rfl) (by kernel_rfl) (fun _ _ _ h => h) (Or.inl ⟨by rfl, fun w hSw => ?_⟩) hC3 ?_
       ·go_simp
       simp only [Act.put, List.getElem_toArray, List.getElem_cons_zero, List.getElem_cons_succ, List.setIfInBounds_toArray, List.set_cons_zero, List.set_cons_succ]
       refine wpAnyH_take (i := 13) (v := .agg #[.slice sa1 rr.store.length sc1, .slice ra1 rr.refs.length rc1, .int .i64 rr.gen, .int .i64 rr.phase, .slice oa1 rr.pend.objects.length oc1, .slice ua1 rr.pend.updates.length uc1, .bool rr.pend.force]) rfl (by kernel_rfl) (by kernel_rfl) (by kernel_rfl) (fun _ _ _ h => h) (Or.inl ⟨by rfl, fun w hSw => ?_⟩) hC3 ?_
       ·go_simp
       simp only [Act.put, List.getElem_toArray, List.getElem_cons_zero, List.getElem_cons_succ, List.setIfInBounds_toArray, List.set_cons_zero, List.set_cons_succ]
       refine wpAnyH_take (i := 14) (v := .int .i64 fe) rfl (by kernel_rfl) (by kernel_rfl) (by kernel_rfl) (fun _ _ _ h => h) (Or.inl ⟨by rfl, fun w hSw => ?_⟩) hC3 ?_
       ·go_simp
       simp only [Act.put, List.getElem_toArray, List.getElem_cons_zero, List.getElem_cons_succ, List.setIfInBounds_toArray, List.set_cons_zero, List.set_cons_succ]
       refine wpAnyH_all (rs := [16]) (by kernel_rfl) (by simp) (fun j hj => ?_)
       obtain rfl : j = 16 := by simpa using hj
       refine Or.inl ?_
       have hblk := HDb.out
       have g0 := block_cell (j := 0) hblk rfl
       have g1 := block_cell (j := 1) hblk rfl
       have g2 := block_cell (j := 2) hblk rfl
       have g3 := block_cell (j := 3) hblk rfl
       have g4 := block_cell (j := 4) hblk rfl
       have g5 := block_cell (j := 5) hblk rfl
       have g6 := block_cell (j := 6) hblk rfl
       have f0 := block_free (j := 0) hblk
       have f1 := block_free (j := 1) hblk
       have f2 := block_free (j := 2) hblk
       have f3 := block_free (j := 3) hblk
       have f4 := block_free (j := 4) hblk
       have f5 := block_free (j := 5) hblk
       have f6 := block_free (j := 6) hblk
       have Hb7 := Lib.hid (set7_is (v0 := .slice sa1 rr.store.length sc1) (v1 := .slice ra1 rr.refs.length rc1) (v2 := .int .i64 rr.gen) (v3 := .int .i64 rr.phase) (v4 := .slice oa1 rr.pend.objects.length oc1) (v5 := .slice ua1 rr.pend.updates.length uc1) (v6 := .bool rr.pend.force) hblk)
       have Hu7 := Lib.hid (set7_upd D (.slice sa1 rr.store.length sc1) (.slice ra1 rr.refs.length rc1) (.int .i64 rr.gen) (.int .i64 rr.phase) (.slice oa1 rr.pend.objects.length oc1) (.slice ua1 rr.pend.updates.length uc1) (.bool rr.pend.force) x3)
       have hQ7 := HQu.out _ _ _ hC3 Hu7.out (fun b hb => by have := HDge.out; have e2 : b = D := hb; omega)
       have Hv7 := Lib.hid ((Hv2.out.upd Hu7.out (fun b hb e => hb.2 e)).weaken (S' := fun b => (wo.heap.size ≤ b ∧ b < (set7 D (.slice sa1 rr.store.length sc1) (.slice ra1 rr.refs.length rc1) (.int .i64 rr.gen) (.int .i64 rr.phase) (.slice oa1 rr.pend.objects.length oc1) (.slice ua1 rr.pend.updates.length uc1) (.bool rr.pend.force) x3).heap.size) ∧ b ≠ D) fun b hb => ⟨⟨hb.1.1, by have := hb.1.2; have := Hu7.out.size; omega⟩, hb.2⟩)
       go_wp2_with fail
       first | refine ⟨hQ7, ?_⟩ | skip
       change wpAnyH _ _ _ _ _ _ _ _ (set7 D (.slice sa1 rr.store.length sc1) (.slice ra1 rr.refs.length rc1) (.int .i64 rr.gen) (.int .i64 rr.phase) (.slice oa1 rr.pend.objects.length oc1) (.slice ua1 rr.pend.updates.length uc1) (.bool rr.pend.force) x3)
       generalize set7 D (.slice sa1 rr.store.length sc1) (.slice ra1 rr.refs.length rc1) (.int .i64 rr.gen) (.int .i64 rr.phase) (.slice oa1 rr.pend.objects.length oc1) (.slice ua1 rr.pend.updates.length uc1) (.bool rr.pend.force) x3 = w7 at *
       clear g0 g1 g2 g3 g4 g5 g6 f0 f1 f2 f3 f4 f5 f6 hblk Hu7
       refine wpAnyH_all (rs := [17]) (by kernel_rfl) (by simp) (fun j hj => ?_)
       obtain rfl : j = 17 := by simpa using hj
       refine Or.inl ?_
       go_wp2_with fail
       first | refine ⟨hQ7, by kernel_rfl, ?_⟩ | refine ⟨by kernel_rfl, ?_⟩
       have HEnd := Lib.hid (show In Q w7 ∧ wo.heap.size ≤ D ∧ ∃ sa1 sc1 ra1 rc1 oa1 oc1 ua1 uc1, w7.heap[D]? = some (.cells #[.slice sa1 rr.store.length sc1, .slice ra1 rr.refs.length rc1, .int .i64 rr.gen, .int .i64 rr.phase, .slice oa1 rr.pend.objects.length oc1, .slice ua1 rr.pend.updates.length uc1, .bool rr.pend.force] 28 (0, 0)) ∧ RepIs (fun b => (wo.heap.size ≤ b ∧ b < w7.heap.size) ∧ b ≠ D) w7 rr (.slice sa1 rr.store.length sc1) (.slice ra1 rr.refs.length rc1) (.slice oa1 rr.pend.objects.length oc1) (.slice ua1 rr.pend.updates.length uc1) from ⟨hQ7, HDge.out, sa1, sc1, ra1, rc1, oa1, oc1, ua1, uc1, Hb7.out, Hv7.out⟩)
       go_wp2_with fail
       go_meet
       exact ⟨D, rfl, rfl, w7, rfl, HEnd⟩
     ·skip
      obtain rfl : j = 15 := by simpa using hj
      refine Or.inl ?_
      have hC1 := hQ.alloc _ (.cells #[.slice none 0 0, .slice none 0 0, .int .i64 0, .int .i64 0, .slice none 0 0, .slice none 0 0, .bool false] 28) hC0
      go_simp
      have hbA : Below x0.heap.size x0 (x0.alloc (.cells #[.slice none 0 0, .slice none 0 0, .int .i64 0, .int .i64 0, .slice none 0 0, .slice none 0 0, .bool false] 28)) := (Below.refl _ _).alloc (Nat.le_refl _) _
      have HDb := Lib.hid (heap_alloc_new x0 (.cells #[.slice none 0 0, .slice none 0 0, .int .i64 0, .int .i64 0, .slice none 0 0, .slice none 0 0, .bool false] 28))
      have HDge := Lib.hid (hQb _ hC0).size
      clear hbA
      generalize x0.heap.size = D at *
      generalize x0.alloc (.cells #[.slice none 0 0, .slice none 0 0, .int .i64 0, .int .i64 0, .slice none 0 0, .slice none 0 0, .bool false] 28) = x1 at *
      refine wpAnyH_all (rs := [10]) (by kernel_rfl) (by simp) (fun j hj => ?_)
      obtain rfl : j = 10 := by simpa using hj
      refine Or.inl ?_
      go_wp2_with fail
      refine (HY.out _ hC1).mono ?_
      rintro e x11 ⟨rfl, hb0⟩
      have hC2 := hQn _ _ hC1 (hb0.mono (by first | exact Nat.le_refl _ | omega))
      replace HDb := Lib.hid (blk_below HDb.out hb0)
      generalize x11 = x2 at *
      clear hb0
      go_simp
      refine wpAnyH_all (rs := [11]) (by kernel_rfl) (by simp) (fun j hj => ?_)
      obtain rfl : j = 11 := by simpa using hj
      refine Or.inl ?_
      go_wp2_with fail
      refine (HR.out _ hC2).mono ?_
      rintro e x12 ⟨sv1, rv1, ov1, uv1, rfl, hv, hb1⟩
      have hC3 := hQn _ _ hC2 hb1
      obtain ⟨sa1, sc1, rfl⟩ := hv.store.vshape
      obtain ⟨⟨ra1, rc1⟩, rfl⟩ := hv.refs.shape
      obtain ⟨oa1, oc1, rfl⟩ := hv.objs.vshape
      obtain ⟨⟨ua1, uc1⟩, rfl⟩ := hv.upds.shape
      have HDx := Lib.hid (show D < x2.heap.size from lt_of_block HDb.out)
      replace HDb := Lib.hid (blk_below HDb.out hb1)
      have hx0 := (hQb _ hC2).size
      have Hv2 := Lib.hid (hv.lt.weaken (S' := fun b => (wo.heap.size ≤ b ∧ b < x12.heap.size) ∧ b ≠ D) fun b hb => ⟨⟨by have := hb.1; omega, hb.2⟩, fun e => by have := HDx.out; have := hb.1; omega⟩)
      clear hv
      simp only [repV]
      go_simp
      clear hb1
      generalize x12 = x3 at *
      refine wpAnyH_take (i := 12) (v := .tuple #[.agg #[.slice sa1 rr.store.length sc1, .slice ra1 rr.refs.length rc1, .int .i64 rr.gen, .int .i64 rr.phase, .slice oa1 rr.pend.objects.length oc1, .slice ua1 rr.pend.updates.length uc1, .bool rr.pend.force], .int .i64 fe]) rfl (by kernel_rfl) (by kernel_rfl) (by kernel_rfl) (fun _ _ _ h => h) (Or.inl ⟨by rfl, fun w hSw => ?_⟩) hC3 ?_
      ·go_simp
      simp only [Act.put, List.getElem_toArray, List.getElem_cons_zero, List.getElem_cons_succ, List.setIfInBounds_toArray, List.set_cons_zero, List.set_cons_succ]
      refine wpAnyH_take (i := 13) (v := .agg #[.slice sa1 rr.store.length sc1, .slice ra1 rr.refs.length rc1, .int .i64 rr.gen, .int .i64 rr.phase, .slice oa1 rr.pend.objects.length oc1, .slice ua1 rr.pend.updates.length uc1, .bool rr.pend.force]) rfl (by kernel_rfl) (by kernel_rfl) (by kernel_rfl) (fun _ _ _ h => h) (Or.inl ⟨by rfl, fun w hSw => ?_⟩) hC3 ?_
      ·go_simp
      simp only [Act.put, List.getElem_toArray, List.getElem_cons_zero, List.getElem_cons_succ, List.setIfInBounds_toArray, List.set_cons_zero, List.set_cons_succ]
      refine wpAnyH_take (i := 14) (v := .int .i64 fe) rfl (by kernel_rfl) (by kernel_rfl) (by kernel_rfl) (fun _ _ _ h => h) (Or.inl ⟨by rfl, fun w hSw => ?_⟩) hC3 ?_
      ·go_simp
      simp only [Act.put, List.getElem_toArray, List.getElem_cons_zero, List.getElem_cons_succ, List.setIfInBounds_toArray, List.set_cons_zero, List.set_cons_succ]
      refine wpAnyH_all (rs := [16]) (by kernel_rfl) (by simp) (fun j hj => ?_)
      obtain rfl : j = 16 := by simpa using hj
      refine Or.inl ?_
      have hblk := HDb.out
      have g0 := block_cell (j := 0) hblk rfl
      have g1 := block_cell (j := 1) hblk rfl
      have g2 := block_cell (j := 2) hblk rfl
      have g3 := block_cell (j := 3) hblk rfl
      have g4 := block_cell (j := 4) hblk rfl
      have g5 := block_cell (j := 5) hblk rfl
      have g6 := block_cell (j := 6) hblk rfl
      have f0 := block_free (j := 0) hblk
      have f1 := block_free (j := 1) hblk
      have f2 := block_free (j := 2) hblk
      have f3 := block_free (j := 3) hblk
      have f4 := block_free (j := 4) hblk
      have f5 := block_free (j := 5) hblk
      have f6 := block_free (j := 6) hblk
      have Hb7 := Lib.hid (set7_is (v0 := .slice sa1 rr.store.length sc1) (v1 := .slice ra1 rr.refs.length rc1) (v2 := .int .i64 rr.gen) (v3 := .int .i64 rr.phase) (v4 := .slice oa1 rr.pend.objects.length oc1) (v5 := .slice ua1 rr.pend.updates.length uc1) (v6 := .bool rr.pend.force) hblk)
      have Hu7 := Lib.hid (set7_upd D (.slice sa1 rr.store.length sc1) (.slice ra1 rr.refs.length rc1) (.int .i64 rr.gen) (.int .i64 rr.phase) (.slice oa1 rr.pend.objects.length oc1) (.slice ua1 rr.pend.updates.length uc1) (.bool rr.pend.force) x3)
      have hQ7 := HQu.out _ _ _ hC3 Hu7.out (fun b hb => by have := HDge.out; have e2 : b = D := hb; omega)
      have Hv7 := Lib.hid ((Hv2.out.upd Hu7.out (fun b hb e => hb.2 e)).weaken (S' := fun b => (wo.heap.size ≤ b ∧ b < (set7 D (.slice sa1 rr.store.length sc1) (.slice ra1 rr.refs.length rc1) (.int .i64 rr.gen) (.int .i64 rr.phase) (.slice oa1 rr.pend.objects.length oc1) (.slice ua1 rr.pend.updates.length uc1) (.bool rr.pend.force) x3).heap.size) ∧ b ≠ D) fun b hb => ⟨⟨hb.1.1, by have := hb.1.2; have := Hu7.out.size; omega⟩, hb.2⟩)
      go_wp2_with fail
      first | refine ⟨hQ7, ?_⟩ | skip
      change wpAnyH _ _ _ _ _ _ _ _ (set7 D (.slice sa1 rr.store.length sc1) (.slice ra1 rr.refs.length rc1) (.int .i64 rr.gen) (.int .i64 rr.phase) (.slice oa1 rr.pend.objects.length oc1) (.slice ua1 rr.pend.updates.length uc1) (.bool rr.pend.force) x3)
      generalize set7 D (.slice sa1 rr.store.length sc1) (.slice ra1 rr.refs.length rc1) (.int .i64 rr.gen) (.int .i64 rr.phase) (.slice oa1 rr.pend.objects.length oc1) (.slice ua1 rr.pend.updates.length uc1) (.bool rr.pend.force) x3 = w7 at *
      clear g0 g1 g2 g3 g4 g5 g6 f0 f1 f2 f3 f4 f5 f6 hblk Hu7
      refine wpAnyH_all (rs := [17]) (by kernel_rfl) (by simp) (fun j hj => ?_)
      obtain rfl : j = 17 := by simpa using hj
      refine Or.inl ?_
      go_wp2_with fail
      first | refine ⟨hQ7, by kernel_rfl, ?_⟩ | refine ⟨by kernel_rfl, ?_⟩
      have HEnd := Lib.hid (show In Q w7 ∧ wo.heap.size ≤ D ∧ ∃ sa1 sc1 ra1 rc1 oa1 oc1 ua1 uc1, w7.heap[D]? = some (.cells #[.slice sa1 rr.store.length sc1, .slice ra1 rr.refs.length rc1, .int .i64 rr.gen, .int .i64 rr.phase, .slice oa1 rr.pend.objects.length oc1, .slice ua1 rr.pend.updates.length uc1, .bool rr.pend.force] 28 (0, 0)) ∧ RepIs (fun b => (wo.heap.size ≤ b ∧ b < w7.heap.size) ∧ b ≠ D) w7 rr (.slice sa1 rr.store.length sc1) (.slice ra1 rr.refs.length rc1) (.slice oa1 rr.pend.objects.length oc1) (.slice ua1 rr.pend.updates.length uc1) from ⟨hQ7, HDge.out, sa1, sc1, ra1, rc1, oa1, oc1, ua1, uc1, Hb7.out, Hv7.out⟩)
      go_wp2_with fail
      go_meet
      exact ⟨D, rfl, rfl, w7, rfl, HEnd⟩
    case rest =>
     obtain ⟨D9, rfl, rfl, y9, rfl, HK9⟩ := hcut
     obtain ⟨hQ9, hD9, sa1, sc1, ra1, rc1, oa1, oc1, ua1, uc1, hb9, hv9⟩ := HK9.out
     have HDb := Lib.hid hb9
     have Hv7 := Lib.hid hv9
     clear HK9 hb9 hv9 HR HY HQu c0 e0 e1 e2 e3 e4 e5 e6 hvk q1
     by_cases hz : fe = 0
     case neg =>
      have HE2 := Lib.hid (HLs.out k Hs.out hlt fe HnE.out hz)
      have Hz := Lib.hid hz
      have hq2 : (fe != 0) = true := by simpa using hz
      clear hz
      have HB2 := Lib.hid (HBw.out.trans ((hQb _ hQ9).mono (show B ≤ wo.heap.size by omega)))
      go_wp2_with fail
      go_ret
      exact ⟨ret_int HE2.out.symm, HB2.out, fun h => absurd (HE2.out.symm.trans h) Hz.out⟩
     case pos =>
      subst hz
      have Hs2 := Lib.hid (show scan (doneE L vs y) (k + 1) = 0 from scan_next Hs.out HnE.out)
      go_upto_region 8 with fail
      obtain ⟨T, hT, hT1, hTall⟩ := cls_plain y9
      have hTQ : ∀ x, In T x → In Q x := fun x hx => hQn _ _ hQ9 (hT.below _ hx)
      have HVT := Lib.hid (fun x (hx : In T x) => show x.cell? ⟨D9, 0, none⟩ = some (.slice sa1 rr.store.length sc1) ∧ x.cell? ⟨D9, 1, none⟩ = some (.slice ra1 rr.refs.length rc1) ∧ x.cell? ⟨D9, 2, none⟩ = some (.int .i64 rr.gen) ∧ x.cell? ⟨D9, 3, none⟩ = some (.int .i64 rr.phase) ∧ x.cell? ⟨D9, 4, none⟩ = some (.slice oa1 rr.pend.objects.length oc1) ∧ x.cell? ⟨D9, 5, none⟩ = some (.slice ua1 rr.pend.updates.length uc1) ∧ x.cell? ⟨D9, 6, none⟩ = some (.bool rr.pend.force) from ⟨below_cell (hT.below _ hx) (block_cell (j := 0) HDb.out rfl), below_cell (hT.below _ hx) (block_cell (j := 1) HDb.out rfl), below_cell (hT.below _ hx) (block_cell (j := 2) HDb.out rfl), below_cell (hT.below _ hx) (block_cell (j := 3) HDb.out rfl), below_cell (hT.below _ hx) (block_cell (j := 4) HDb.out rfl), below_cell (hT.below _ hx) (block_cell (j := 5) HDb.out rfl), below_cell (hT.below _ hx) (block_cell (j := 6) HDb.out rfl)⟩)
      have hM8 := fun x (hx : In T x) => show x.cell? ⟨M, 0, none⟩ = some (.slice (some ⟨g, 0, none⟩) 3 c) from below_cell (hQb _ (hTQ x hx)) (block_cell (j := 0) HMb.out rfl)
      refine wp_region_held (S := In (fun x : World => x.cell? ⟨M, 0, none⟩ = some (.slice (some ⟨g, 0, none⟩) 3 c) ∧ x.cell? ⟨D9, 0, none⟩ = some (.slice sa1 rr.store.length sc1) ∧ x.cell? ⟨D9, 1, none⟩ = some (.slice ra1 rr.refs.length rc1) ∧ x.cell? ⟨D9, 2, none⟩ = some (.int .i64 rr.gen) ∧ x.cell? ⟨D9, 3, none⟩ = some (.int .i64 rr.phase) ∧ x.cell? ⟨D9, 4, none⟩ = some (.slice oa1 rr.pend.objects.length oc1) ∧ x.cell? ⟨D9, 5, none⟩ = some (.slice ua1 rr.pend.updates.length uc1) ∧ x.cell? ⟨D9, 6, none⟩ = some (.bool rr.pend.force))) (by kernel_rfl) ?_
      change wpAnyH _ _ _ _ _ _ _ _ (World.drew _)
      have hT0 := hT.drew _ hT1
      have hy3 := (hT.below _ hT0).size
      generalize y9.drew = y0 at hT0 hy3 ⊢
      have hS8 : In (fun x : World => x.cell? ⟨M, 0, none⟩ = some (.slice (some ⟨g, 0, none⟩) 3 c) ∧ x.cell? ⟨D9, 0, none⟩ = some (.slice sa1 rr.store.length sc1) ∧ x.cell? ⟨D9, 1, none⟩ = some (.slice ra1 rr.refs.length rc1) ∧ x.cell? ⟨D9, 2, none⟩ = some (.int .i64 rr.gen) ∧ x.cell? ⟨D9, 3, none⟩ = some (.int .i64 rr.phase) ∧ x.cell? ⟨D9, 4, none⟩ = some (.slice oa1 rr.pend.objects.length oc1) ∧ x.cell? ⟨D9, 5, none⟩ = some (.slice ua1 rr.pend.updates.length uc1) ∧ x.cell? ⟨D9, 6, none⟩ = some (.bool rr.pend.force)) y0 := show (fun x : World => x.cell? ⟨M, 0, none⟩ = some (.slice (some ⟨g, 0, none⟩) 3 c) ∧ x.cell? ⟨D9, 0, none⟩ = some (.slice sa1 rr.store.length sc1) ∧ x.cell? ⟨D9, 1, none⟩ = some (.slice ra1 rr.refs.length rc1) ∧ x.cell? ⟨D9, 2, none⟩ = some (.int .i64 rr.gen) ∧ x.cell? ⟨D9, 3, none⟩ = some (.int .i64 rr.phase) ∧ x.cell? ⟨D9, 4, none⟩ = some (.slice oa1 rr.pend.objects.length oc1) ∧ x.cell? ⟨D9, 5, none⟩ = some (.slice ua1 rr.pend.updates.length uc1) ∧ x.cell? ⟨D9, 6, none⟩ = some (.bool rr.pend.force)) y0 from ⟨hM8 _ hT0, HVT.out _ hT0⟩
      refine wpAnyH_take (i := 0) (v := .pointer (some ⟨M, 0, none⟩)) rfl (by kernel_rfl) (by kernel_rfl) (by kernel_rfl) (fun _ _ _ h => h) (Or.inl ⟨by rfl, fun w hSw => ?_⟩) hS8 ?_
      ·go_simp
      simp only [Act.put, List.getElem_toArray, List.getElem_cons_zero, List.getElem_cons_succ, List.setIfInBounds_toArray, List.set_cons_zero, List.set_cons_succ]
      refine wpAnyH_take (i := 1) (v := .pointer (some ⟨M, 0, none⟩)) rfl (by kernel_rfl) (by kernel_rfl) (by kernel_rfl) (fun _ _ _ h => h) (Or.inl ⟨by rfl, fun w hSw => ?_⟩) hS8 ?_
      ·go_simp
      simp only [Act.put, List.getElem_toArray, List.getElem_cons_zero, List.getElem_cons_succ, List.setIfInBounds_toArray, List.set_cons_zero, List.set_cons_succ]
      refine wpAnyH_take (i := 2) (v := .pointer (some ⟨M, 0, none⟩)) rfl (by kernel_rfl) (by kernel_rfl) (by kernel_rfl) (fun _ _ _ h => h) (Or.inl ⟨by rfl, fun w hSw => ?_⟩) hS8 ?_
      ·go_simp
      simp only [Act.put, List.getElem_toArray, List.getElem_cons_zero, List.getElem_cons_succ, List.setIfInBounds_toArray, List.set_cons_zero, List.set_cons_succ]
      refine wpAnyH_take (i := 3) (v := .pointer (some ⟨M, 0, none⟩)) rfl (by kernel_rfl) (by kernel_rfl) (by kernel_rfl) (fun _ _ _ h => h) (Or.inl ⟨by rfl, fun w hSw => ?_⟩) hS8 ?_
      ·go_simp
      simp only [Act.put, List.getElem_toArray, List.getElem_cons_zero, List.getElem_cons_succ, List.setIfInBounds_toArray, List.set_cons_zero, List.set_cons_succ]
      refine wpAnyH_take (i := 4) (v := .slice (some ⟨g, 0, none⟩) 3 c) rfl (by kernel_rfl) (by kernel_rfl) (by kernel_rfl) (fun _ _ _ h => h) (Or.inl ⟨by rfl, fun w hSw => ?_⟩) hS8 ?_
      ·have yy := (show (fun x : World => x.cell? ⟨M, 0, none⟩ = some (.slice (some ⟨g, 0, none⟩) 3 c) ∧ x.cell? ⟨D9, 0, none⟩ = some (.slice sa1 rr.store.length sc1) ∧ x.cell? ⟨D9, 1, none⟩ = some (.slice ra1 rr.refs.length rc1) ∧ x.cell? ⟨D9, 2, none⟩ = some (.int .i64 rr.gen) ∧ x.cell? ⟨D9, 3, none⟩ = some (.int .i64 rr.phase) ∧ x.cell? ⟨D9, 4, none⟩ = some (.slice oa1 rr.pend.objects.length oc1) ∧ x.cell? ⟨D9, 5, none⟩ = some (.slice ua1 rr.pend.updates.length uc1) ∧ x.cell? ⟨D9, 6, none⟩ = some (.bool rr.pend.force)) w from hSw).1; go_simp
      simp only [Act.put, List.getElem_toArray, List.getElem_cons_zero, List.getElem_cons_succ, List.setIfInBounds_toArray, List.set_cons_zero, List.set_cons_succ]
      refine wpAnyH_take (i := 5) (v := .int .i64 (k : Int)) rfl (by kernel_rfl) (by kernel_rfl) (by kernel_rfl) (fun _ _ _ h => h) (Or.inl ⟨by rfl, fun w hSw => ?_⟩) hS8 ?_
      ·go_simp
      simp only [Act.put, List.getElem_toArray, List.getElem_cons_zero, List.getElem_cons_succ, List.setIfInBounds_toArray, List.set_cons_zero, List.set_cons_succ]
      refine wpAnyH_take (i := 6) (v := .agg #[.slice sa1 rr.store.length sc1, .slice ra1 rr.refs.length rc1, .int .i64 rr.gen, .int .i64 rr.phase, .slice oa1 rr.pend.objects.length oc1, .slice ua1 rr.pend.updates.length uc1, .bool rr.pend.force]) rfl (by kernel_rfl) (by kernel_rfl) (by kernel_rfl) (fun _ _ _ h => h) (Or.inl ⟨by rfl, fun w hSw => ?_⟩) hS8 ?_
      ·obtain ⟨_, u0, u1, u2, u3, u4, u5, u6⟩ := (show (fun x : World => x.cell? ⟨M, 0, none⟩ = some (.slice (some ⟨g, 0, none⟩) 3 c) ∧ x.cell? ⟨D9, 0, none⟩ = some (.slice sa1 rr.store.length sc1) ∧ x.cell? ⟨D9, 1, none⟩ = some (.slice ra1 rr.refs.length rc1) ∧ x.cell? ⟨D9, 2, none⟩ = some (.int .i64 rr.gen) ∧ x.cell? ⟨D9, 3, none⟩ = some (.int .i64 rr.phase) ∧ x.cell? ⟨D9, 4, none⟩ = some (.slice oa1 rr.pend.objects.length oc1) ∧ x.cell? ⟨D9, 5, none⟩ = some (.slice ua1 rr.pend.updates.length uc1) ∧ x.cell? ⟨D9, 6, none⟩ = some (.bool rr.pend.force)) w from hSw); go_simp
      simp only [Act.put, List.getElem_toArray, List.getElem_cons_zero, List.getElem_cons_succ, List.setIfInBounds_toArray, List.set_cons_zero, List.set_cons_succ]
      refine wpAnyH_take (i := 7) (v := .pointer (some ⟨g, k * 7, none⟩)) rfl (by kernel_rfl) (by kernel_rfl) (by kernel_rfl) (fun _ _ _ h => h) (Or.inl ⟨by rfl, fun w hSw => ?_⟩) hS8 ?_
      ·go_simp
      simp only [Act.put, List.getElem_toArray, List.getElem_cons_zero, List.getElem_cons_succ, List.setIfInBounds_toArray, List.set_cons_zero, List.set_cons_succ]
      refine wpAnyH_all (rs := [8]) (by kernel_rfl) (by simp) (fun j hj => ?_)
      obtain rfl : j = 8 := by simpa using hj
      refine Or.inl ?_
      have hyb := hQb _ (hTQ _ hT0)
      obtain ⟨z0, z1, z2, z3, z4, z5, z6⟩ := HKk.out _ hyb
      have hOy := HO.out.below hyb
      have f0 := hOy.free (k * 7)
      have f1 := hOy.free (k * 7 + 1)
      have f2 := hOy.free (k * 7 + 2)
      have f3 := hOy.free (k * 7 + 3)
      have f4 := hOy.free (k * 7 + 4)
      have f5 := hOy.free (k * 7 + 5)
      have f6 := hOy.free (k * 7 + 6)
      have hset := hOy.set (i := k) (r := rr) (x := ⟨.slice sa1 rr.store.length sc1, .slice ra1 rr.refs.length rc1, .slice oa1 rr.pend.objects.length oc1, .slice ua1 rr.pend.updates.length uc1⟩) (show k < L2.length by rw [HLl.out]; exact hlt) (S2 := fun b => ((wo.heap.size ≤ b ∧ b < y9.heap.size) ∧ b ≠ D9) ∧ b < y0.heap.size) (RepIs.lt (Hv7.out.below (hT.below _ hT0))) (fun b hb => ⟨hb.2, fun e => by have := hb.1.1.1; omega⟩)
      have hS7 := (show (fun x : World => x.cell? ⟨M, 0, none⟩ = some (.slice (some ⟨g, 0, none⟩) 3 c) ∧ x.cell? ⟨D9, 0, none⟩ = some (.slice sa1 rr.store.length sc1) ∧ x.cell? ⟨D9, 1, none⟩ = some (.slice ra1 rr.refs.length rc1) ∧ x.cell? ⟨D9, 2, none⟩ = some (.int .i64 rr.gen) ∧ x.cell? ⟨D9, 3, none⟩ = some (.int .i64 rr.phase) ∧ x.cell? ⟨D9, 4, none⟩ = some (.slice oa1 rr.pend.objects.length oc1) ∧ x.cell? ⟨D9, 5, none⟩ = some (.slice ua1 rr.pend.updates.length uc1) ∧ x.cell? ⟨D9, 6, none⟩ = some (.bool rr.pend.force)) y0 from hS8)
      have HS9 := Lib.hid (show In (fun x : World => x.cell? ⟨M, 0, none⟩ = some (.slice (some ⟨g, 0, none⟩) 3 c) ∧ x.cell? ⟨D9, 0, none⟩ = some (.slice sa1 rr.store.length sc1) ∧ x.cell? ⟨D9, 1, none⟩ = some (.slice ra1 rr.refs.length rc1) ∧ x.cell? ⟨D9, 2, none⟩ = some (.int .i64 rr.gen) ∧ x.cell? ⟨D9, 3, none⟩ = some (.int .i64 rr.phase) ∧ x.cell? ⟨D9, 4, none⟩ = some (.slice oa1 rr.pend.objects.length oc1) ∧ x.cell? ⟨D9, 5, none⟩ = some (.slice ua1 rr.pend.updates.length uc1) ∧ x.cell? ⟨D9, 6, none⟩ = some (.bool rr.pend.force)) (y0.setCells g (k * 7) (repC rr ⟨.slice sa1 rr.store.length sc1, .slice ra1 rr.refs.length rc1, .slice oa1 rr.pend.objects.length oc1, .slice ua1 rr.pend.updates.length uc1⟩)) from show (fun x : World => x.cell? ⟨M, 0, none⟩ = some (.slice (some ⟨g, 0, none⟩) 3 c) ∧ x.cell? ⟨D9, 0, none⟩ = some (.slice sa1 rr.store.length sc1) ∧ x.cell? ⟨D9, 1, none⟩ = some (.slice ra1 rr.refs.length rc1) ∧ x.cell? ⟨D9, 2, none⟩ = some (.int .i64 rr.gen) ∧ x.cell? ⟨D9, 3, none⟩ = some (.int .i64 rr.phase) ∧ x.cell? ⟨D9, 4, none⟩ = some (.slice oa1 rr.pend.objects.length oc1) ∧ x.cell? ⟨D9, 5, none⟩ = some (.slice ua1 rr.pend.updates.length uc1) ∧ x.cell? ⟨D9, 6, none⟩ = some (.bool rr.pend.force)) (y0.setCells g (k * 7) (repC rr ⟨.slice sa1 rr.store.length sc1, .slice ra1 rr.refs.length rc1, .slice oa1 rr.pend.objects.length oc1, .slice ua1 rr.pend.updates.length uc1⟩)) from ⟨hset.2.cell hS7.1 (fun e => HgM.out e.symm), hset.2.cell hS7.2.1 (fun e => by have e2 : D9 = g := e; omega), hset.2.cell hS7.2.2.1 (fun e => by have e2 : D9 = g := e; omega), hset.2.cell hS7.2.2.2.1 (fun e => by have e2 : D9 = g := e; omega), hset.2.cell hS7.2.2.2.2.1 (fun e => by have e2 : D9 = g := e; omega), hset.2.cell hS7.2.2.2.2.2.1 (fun e => by have e2 : D9 = g := e; omega), hset.2.cell hS7.2.2.2.2.2.2.1 (fun e => by have e2 : D9 = g := e; omega), hset.2.cell hS7.2.2.2.2.2.2.2 (fun e => by have e2 : D9 = g := e; omega)⟩)
      have Hset := Lib.hid hset
      have HMy := Lib.hid ((hyb.block _ hMw).trans HMb.out)
      have HVy := Lib.hid (HV.out.below hyb)
      have HBy := Lib.hid (HBw.out.trans (hyb.mono (show B ≤ wo.heap.size by omega)))
      have hys := hyb.size
      have HS8 := Lib.hid hS8
      have Hvy := Lib.hid (fun i (hi : i < 3) => below_cell hyb (Hvc.out i hi))
      have Hby := Lib.hid (HBb.out _ _ HBo.out hyb)
      clear hset hOy hyb hM8 hS8 hS7 hT0
      go_wp2_with fail
      first | refine ⟨by kernel_rfl, ?_⟩ | refine ⟨HS9.out, by kernel_rfl, ?_⟩
      first | change Exit.then _ _ _ _ (y0.setCells g (k * 7) (repC rr ⟨.slice sa1 rr.store.length sc1, .slice ra1 rr.refs.length rc1, .slice oa1 rr.pend.objects.length oc1, .slice ua1 rr.pend.updates.length uc1⟩)) | change Exit.inBlock _ _ _ _ (y0.setCells g (k * 7) (repC rr ⟨.slice sa1 rr.store.length sc1, .slice ra1 rr.refs.length rc1, .slice oa1 rr.pend.objects.length oc1, .slice ua1 rr.pend.updates.length uc1⟩))
      have hO9 := Hset.out.1
      have hu := Hset.out.2
      have hM9 := hu.blk HMy.out (fun e => HgM.out e.symm)
      have hV9 := HVy.out.upd hu (fun q hq e => Hvgg.out (by rw [hq, e]))
      have hB9 := HBy.out.trans (hu.below (B := B) (by omega) (fun b hb => by have e2 : b = g := hb; omega))
      have hz9 := hu.size
      have hc9 := fun i (hi : i < 3) => hu.cell (Hvy.out i hi) (fun e => Hvg.out e)
      have hbx9 := HBg.out _ _ Hby.out hu
      clear Hset HMy HVy HBy hu HS8 Hvy z0 z1 z2 z3 z4 z5 z6 f0 f1 f2 f3 f4 f5 f6
      generalize y0.setCells g (k * 7) (repC rr ⟨.slice sa1 rr.store.length sc1, .slice ra1 rr.refs.length rc1, .slice oa1 rr.pend.objects.length oc1, .slice ua1 rr.pend.updates.length uc1⟩) = w9 at *
      have hFF : ∀ b, (F b ∨ (((wo.heap.size ≤ b ∧ b < y9.heap.size) ∧ b ≠ D9) ∧ b < y0.heap.size)) → B ≤ b ∧ b ≠ M ∧ vv.ownBlock ≠ some b := fun b hb => by
       rcases hb with h | h
       ·exact HF.out b h
       ·have h1 := h.1.1.1
        exact ⟨by omega, by omega, fun e => by have := (HV.out.1.lt _ e).2; omega⟩
      have HEnd := Lib.hid (show LeadAt B g c M w9 (doneTo L vs y (k + 1)) vs t ∧ Below B w w9 ∧ w.heap.size ≤ w9.heap.size ∧ (∀ i, i < 3 → w9.cell? ⟨vb, vo + i, none⟩ = some (.string (sa vs i))) ∧ Bx w9 from by
       rw [HnT.out]
       refine ⟨⟨_, vv, ?_, hV9, hFF, HvM.out, Hvgg.out, HgM.out, ?_⟩, hB9, by have := Hwz.out; omega, hc9, hbx9⟩
       ·rw [List.length_set]; exact hO9
       ·rw [List.length_set, HLl.out]; exact hM9)
      clear hO9 hV9 hB9 hM9 hFF HO HV HF HMb HKk HBw hc9 hbx9
      go_wp2_with fail
      go_roundw
      case rel => exact ⟨k + 1, by omega, by go_num, Hs2.out, HEnd.out⟩
      case measure => simp [intOf]; omega
set_option maxRecDepth 100000 in
theorem finish_leads (g c M B : Nat) (w : World) (L : List Rep) (vs : List ByteArray) (t : ByteArray) (late : Int) (f : Value) (hM : LeadAt B g c M w L vs t) (h3 : L.length = 3) (hv3 : vs.length = 3) (hl : 0 ≤ late ∧ late ≤ 7) (hBM : B ≤ M) (hf : Decides M late w f) :
  Calls Tryz.prog 220 #[.pointer (some ⟨M, 0, none⟩), f] w fun e w' => e = .returned (.int .i64 (scan (doneE L vs (fun i => ((sa vs i).toList == t.toList) && !bitB late i)) 3)) ∧ Below B w w' ∧
   (scan (doneE L vs (fun i => ((sa vs i).toList == t.toList) && !bitB late i)) 3 = 0 → LeadAt B g c M w' (doneTo L vs (fun i => ((sa vs i).toList == t.toList) && !bitB late i) 3) vs t) := by
 obtain ⟨p, q, rfl, hp, hq⟩ := hf
 have hpg : p ≠ g ∧ q ≠ g := by
  obtain ⟨F, vv, hO, _⟩ := hM
  obtain ⟨_, _, h2, _⟩ := hO
  exact ⟨fun e => own_ne h2 hp (by decide) (by rw [e]; rfl), fun e => own_ne h2 hq (by decide) (by rw [e]; rfl)⟩
 refine finish_gen g c M B 251 #[.pointer (some ⟨p, 0, none⟩), .pointer (some ⟨q, 0, none⟩)] (fun i => ((sa vs i).toList == t.toList) && !bitB late i) (fun x => x.heap[p]? = some (.cells #[.pointer (some ⟨M, 0, none⟩)] 236 (0, 0)) ∧ x.heap[q]? = some (.cells #[.int .i64 late] 3 (0, 0))) w L vs t hM h3 hv3 hBM (fun _ _ => rfl) ⟨hp, hq⟩ (fun x z h hb => ⟨blk_below h.1 hb, blk_below h.2 hb⟩) (fun x z h hu => ⟨hu.blk h.1 hpg.1, hu.blk h.2 hpg.2⟩) (fun x k L2 hk hx hL => ?_)
 obtain ⟨F, vv, hO, hV, _, _, _, _, hMb⟩ := hL
 exact decide1_any M k p q vv vs t late _ x (block_cell (j := 0) hx.1 rfl) (block_cell (j := 0) hx.2 rfl) (block_cell (j := 1) hMb rfl) (block_cell (j := 2) hMb rfl) (hV.strs (by omega)) (by omega) hl (by omega)
set_option maxRecDepth 100000 in
theorem finish_none (g c M B : Nat) (w : World) (L : List Rep) (vs : List ByteArray) (t : ByteArray) (hM : LeadAt B g c M w L vs t) (h3 : L.length = 3) (hv3 : vs.length = 3) (hBM : B ≤ M) :
  Calls Tryz.prog 220 #[.pointer (some ⟨M, 0, none⟩), .func (.func 219) #[] #[]] w fun e w' => e = .returned (.int .i64 (scan (doneE L vs (fun _ => false)) 3)) ∧ Below B w w' ∧
   (scan (doneE L vs (fun _ => false)) 3 = 0 → LeadAt B g c M w' (doneTo L vs (fun _ => false) 3) vs t) :=
 finish_gen g c M B 219 #[] (fun _ => false) (fun _ => True) w L vs t hM h3 hv3 hBM (fun _ _ => rfl) trivial (fun _ _ _ _ => trivial) (fun _ _ _ _ => trivial) (fun x k _ _ _ _ => cluRaw1_any k x)
end Go.Proofs.YtjdgpgfiomnjkaaGreatDoor
namespace Go.Proofs.YtjdgpgfiomnjkaaGreatDoor
theorem prep_ok {r : Rep} {p : Psh} (h : RightR r) (h0 : r.phase = 0) (hp : checkPsh p = 0) : prepE r p = 0 := by
 unfold prepE
 rw [inE_ok (rep_right.2 h) h0, if_neg (by decide)]
 exact hp
theorem says_at {l : List Rep} {p : Psh} {up : Int} (hc : RightC l) (hp : checkPsh p = 0) {i : Nat} (hi : i < 3) : saysAt l p up i = voteAt l p up i := by
 unfold saysAt voteAt
 by_cases h : bitB up i = true ∧ (rep l i).phase = 0
 ·rw [if_pos h, if_pos h]
  have ha := apart (prep_ok (hc.each i hi) h.2 hp)
  rw [ha.a]; exact ha.vot.2.2
 ·rw [if_neg h, if_neg h]
theorem prep_at {l : List Rep} {p : Psh} {up : Int} (hc : RightC l) (hp : checkPsh p = 0) {i : Nat} (hi : i < 3) : prepAt l p up i = if bitB up i = true ∧ (rep l i).phase = 0 then votedR (heldR (rep l i) p) else rep l i := by
 unfold prepAt
 by_cases h : bitB up i = true ∧ (rep l i).phase = 0
 ·rw [if_pos h, if_pos h]
  have ha := apart (prep_ok (hc.each i hi) h.2 hp)
  rw [ha.a]; exact ha.vot.2.1
 ·rw [if_neg h, if_neg h]
theorem says_votes {l : List Rep} {p : Psh} {up : Int} (hc : RightC l) (hp : checkPsh p = 0) : saysTo l p up 3 = votesL l p up := by
 show (([] ++ [saysAt l p up 0]) ++ [saysAt l p up 1]) ++ [saysAt l p up 2] = votesL l p up
 rw [says_at hc hp (by decide), says_at hc hp (by decide), says_at hc hp (by decide)]
 rfl
theorem cnt_comm (l : List Rep) (p : Psh) (up late : Int) : cntV (votesL l p up) (tallyS (votesL l p up)).1 (tallyS (votesL l p up)).2 late 3 = commN l p up late 3 := by
 have e0 : sa (votesL l p up) 0 = voteAt l p up 0 := rfl
 have e1 : sa (votesL l p up) 1 = voteAt l p up 1 := rfl
 have e2 : sa (votesL l p up) 2 = voteAt l p up 2 := rfl
 simp only [cntV, commN, commB, tally_same, e0, e1, e2, Bool.and_assoc]
def finAt (l : List Rep) (p : Psh) (up : Int) (y : Nat → Bool) (i : Nat) : Rep := if saysAt l p up i = ByteArray.empty then prepAt l p up i else finR (prepAt l p up i) (y i)
def finAtE (l : List Rep) (p : Psh) (up : Int) (y : Nat → Bool) (i : Nat) : Int := if saysAt l p up i = ByteArray.empty then 0 else finE (prepAt l p up i) (y i)
theorem fin_at {l : List Rep} {p : Psh} {up late : Int} {y : Nat → Bool} (hc : RightC l) (hp : checkPsh p = 0) {i : Nat} (hi : i < 3) (hy : y i = (pushDo l p up late && commB l p up late i)) :
  finAtE l p up y i = fullE l p up late i ∧ (finAtE l p up y i = 0 → finAt l p up y i = pushAt l p up late i) := by
 by_cases h : bitB up i = true ∧ (rep l i).phase = 0
 ·have hz := prep_ok (hc.each i hi) h.2 hp
  have ha := apart hz
  have hs := steps hz
  have h1 : saysAt l p up i = voteR (rep l i) p := by rw [says_at hc hp hi]; unfold voteAt; rw [if_pos h]
  have h2 : prepAt l p up i = votedR (heldR (rep l i) p) := by rw [prep_at hc hp hi, if_pos h]
  have h3 : finAtE l p up y i = finE (votedR (heldR (rep l i) p)) (y i) := by unfold finAtE; rw [h1, if_neg ha.same, h2]
  have h4 : finAt l p up y i = finR (votedR (heldR (rep l i) p)) (y i) := by unfold finAt; rw [h1, if_neg ha.same, h2]
  rw [h3, h4]
  cases hb : (pushDo l p up late && commB l p up late i)
  ·have hn : ¬ (pushDo l p up late = true ∧ commB l p up late i = true) := by rw [← Bool.and_eq_true, hb]; simp
   rw [hy, hb]
   refine ⟨?_, fun _ => ?_⟩
   ·rw [ha.fin.1]; unfold fullE; rw [if_neg (fun h => hn ⟨h.1, h.2.1⟩)]
   ·rw [ha.fin.2]; unfold pushAt; rw [if_neg hn]
  ·have hb2 := hb
   rw [Bool.and_eq_true] at hb2
   have hv := (comm_of hb2.2).vote
   rw [hy, hb]
   rw [hs.1, if_neg (by simpa using hv)]
   refine ⟨?_, fun h0 => ?_⟩
   ·unfold fullE
    by_cases hg : (rep l i).gen = 999
    ·rw [if_pos hg, if_pos ⟨hb2.1, hb2.2, hg⟩]
    ·rw [if_neg hg, if_neg (fun h => hg h.2.2)]
   ·have hg : (rep l i).gen ≠ 999 := fun hg => by rw [if_pos hg] at h0; cases h0
    rw [(hs.2 hv hg).1]; unfold pushAt; rw [if_pos hb2]
 ·have h1 : saysAt l p up i = ByteArray.empty := by unfold saysAt; rw [if_neg h]
  have h2 : prepAt l p up i = rep l i := by unfold prepAt; rw [if_neg h]
  have h3 : finAtE l p up y i = 0 := by unfold finAtE; rw [if_pos h1]
  have h4 : finAt l p up y i = rep l i := by unfold finAt; rw [if_pos h1, h2]
  have hn : ¬ (commB l p up late i = true) := fun hk => h ⟨(comm_of hk).isUp, (comm_of hk).idle⟩
  rw [h3, h4]
  refine ⟨?_, fun _ => ?_⟩
  ·unfold fullE; rw [if_neg (fun h => hn h.2.1)]
  ·unfold pushAt; rw [if_neg (fun h => hn h.2)]
end Go.Proofs.YtjdgpgfiomnjkaaGreatDoor
namespace Go.Proofs.YtjdgpgfiomnjkaaGreatDoor
theorem done_push {l : List Rep} {p : Psh} {up late : Int} {y : Nat → Bool} (hc : RightC l) (hp : checkPsh p = 0) (hy : ∀ i, i < 3 → y i = (pushDo l p up late && commB l p up late i))
  {E : Nat → Int} {T : List Rep} (hE : ∀ i, i < 3 → E i = finAtE l p up y i) (hT : T = [finAt l p up y 0, finAt l p up y 1, finAt l p up y 2]) :
  scan E 3 = scan (fullE l p up late) 3 ∧ (scan E 3 = 0 → T = [pushAt l p up late 0, pushAt l p up late 1, pushAt l p up late 2]) := by
 have hf : ∀ i, i < 3 → E i = fullE l p up late i := fun i hi => (hE i hi).trans (fin_at hc hp hi (hy i hi)).1
 have hs : ∀ k, k ≤ 3 → scan E k = scan (fullE l p up late) k := by
  intro k
  induction k with
  | zero => intro _; rfl
  | succ k ih =>
   intro hk
   unfold scan
   rw [ih (by omega), hf k (by omega)]
 refine ⟨hs 3 (Nat.le_refl _), fun h0 => ?_⟩
 have hz : ∀ i, i < 3 → finAtE l p up y i = 0 := fun i hi => by rw [← hE i hi]; exact scan_zero h0 i hi
 rw [hT, (fin_at hc hp (by omega) (hy 0 (by omega))).2 (hz 0 (by omega)), (fin_at hc hp (by omega) (hy 1 (by omega))).2 (hz 1 (by omega)), (fin_at hc hp (by omega) (hy 2 (by omega))).2 (hz 2 (by omega))]
end Go.Proofs.YtjdgpgfiomnjkaaGreatDoor
