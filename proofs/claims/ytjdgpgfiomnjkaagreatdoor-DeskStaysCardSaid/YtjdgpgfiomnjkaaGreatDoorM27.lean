
/- Walks: the law DeskStays. -/
import Derived.Test.YtjdgpgfiomnjkaaGreatDoorM26
import Derived.Test.YtjdgpgfiomnjkaaGreatDoorM24
namespace Go.Proofs.YtjdgpgfiomnjkaaGreatDoor
open Go.RowKit
set_option linter.unusedVariables false
set_option linter.unusedSimpArgs false
theorem runD_at (s : List Ac) {k : Nat} : ∀ n, k < n → (runD s n)[k]? = some (toldB (runL s k) (ac s k))
 | 0, h => absurd h (Nat.not_lt_zero _)
 | n + 1, h => by
  unfold runD
  by_cases hk : k < n
  ·rw [List.getElem?_append_left (by rw [runD_length]; exact hk)]; exact runD_at s n hk
  ·obtain rfl : k = n := by omega
   rw [List.getElem?_append_right (by rw [runD_length]; exact Nat.le_refl _), runD_length]; simp
theorem runE_at (s : List Ac) {k : Nat} : ∀ n, k < n → (runE s n)[k]? = some (actE (runL s k) (ac s k))
 | 0, h => absurd h (Nat.not_lt_zero _)
 | n + 1, h => by
  unfold runE
  by_cases hk : k < n
  ·rw [List.getElem?_append_left (by rw [runE_length]; exact hk)]; exact runE_at s n hk
  ·obtain rfl : k = n := by omega
   rw [List.getElem?_append_right (by rw [runE_length]; exact Nat.le_refl _), runE_length]; simp
set_option maxRecDepth 100000 in
set_option maxHeartbeats 64000000 in
theorem deskStays_any (s : List Ac) (sv : Value) (S : Nat → Prop) (w : World) (h : ActsV S w sv s) (ht : Tab w) :
  Calls Tryz.prog 6 #[sv] w fun e w' => e = .returned (.bool true) ∧ Below w.heap.size w w' := by
 have HR := Lib.hid (fun x (hx : Below w.heap.size w x) => deskRun_any s _ S x (h.below hx) (ht.below hx))
 obtain ⟨a, n, cap, fr, HN, rfl, _, _, h3, h4, h5⟩ := h.open
 have HTw := Lib.hid ht
 have H4 := Lib.hid h4
 have H5 := Lib.hid h5
 clear h h4 h5 ht
 have HN2 := Lib.hid (show runN s = if n ≤ 12 then n else 0 by rw [HN.out]; rfl)
 have HW2 := Lib.hid (show runW s = if n ≤ 12 then 0 else 2 by rw [HN.out]; rfl)
 generalize hww : runW s = rw0 at *
 clear hww
 generalize hnn : runN s = m at *
 have Hm := Lib.hid hnn
 clear hnn
 have Hcl := Lib.hid (show (runC s).length * 120 ≤ 140737488351232 by unfold runC; split; rw [(run_right s _).len]; decide; decide)
 generalize hcc : runC s = cl at *
 have Hcc := Lib.hid hcc
 clear hcc
 by_cases hn : n ≤ 12
 case neg =>
  rw [if_neg hn] at HN2 HW2
  obtain rfl := HN2.out
  obtain rfl := HW2.out
  have q1 : (12 : Int) < (n : Int) := by omega
  go_enter Tryz.func6, Tryz.ntmps6
  go_wp2_with fail
  refine (deskBegun_any _ HTw.out).mono ?_
  rintro e w1 ⟨rfl, hb1⟩
  go_wp2_with fail
  refine (clusterBegun_any _ (HTw.out.below hb1)).mono ?_
  rintro e w2 ⟨rfl, hb2⟩
  have HB2 := Lib.hid (below_next hb1 hb2)
  clear hb1 hb2
  go_wp2_with fail
  refine (HR.out _ HB2.out).mono ?_
  rintro e w3 ⟨v3, t3, d3, rfl, hv3, hb3⟩
  have hc3 : RepsV (fun b => w2.heap.size ≤ b) w3 v3 cl := by have := hv3.clu; rw [Hcc.out] at this; exact this
  obtain ⟨a3, c3, rfl⟩ := hc3.vshape
  have ht3 : w3.ownsRow w2.heap.size 4 1 t3 0 ((runD s 0).map .bool) := by have := hv3.told; rw [Hm.out] at this; exact this
  have hd3 : w3.ownsRow w2.heap.size 33 1 d3 0 ((runE s 0).map (.int .i64)) := by have := hv3.done; rw [Hm.out] at this; exact this
  obtain ⟨⟨ta, tc⟩, rfl⟩ := (show ∃ p : Option Addr × Nat, t3 = .slice p.1 0 p.2 from by obtain ⟨a, c, h⟩ := own_shape ht3; exact ⟨(a, c), h⟩)
  obtain ⟨⟨da, dc⟩, rfl⟩ := (show ∃ p : Option Addr × Nat, d3 = .slice p.1 0 p.2 from by obtain ⟨a, c, h⟩ := own_shape hd3; exact ⟨(a, c), h⟩)
  have HE := Lib.hid (below_next HB2.out (hb3.trans ((Below.refl _ _).alloc hb3.size (.cells #[.slice a3 cl.length c3] 66))))
  clear hv3 hc3 ht3 hd3 hb3
  go_wp2_with fail
  go_ret
  exact ⟨rfl, HE.out⟩
 case pos =>
  rw [if_pos hn] at HN2 HW2
  obtain rfl : n = m := HN2.out.symm
  obtain rfl := HW2.out
  have q1 : ¬ (12 : Int) < (n : Int) := by omega
  go_enter Tryz.func6, Tryz.ntmps6
  go_wp2_with fail
  refine (deskBegun_any _ HTw.out).mono ?_
  rintro e w1 ⟨rfl, hb1⟩
  go_wp2_with fail
  refine (clusterBegun_any _ (HTw.out.below hb1)).mono ?_
  rintro e w2 ⟨rfl, hb2⟩
  have HB2 := Lib.hid (below_next hb1 hb2)
  clear hb1 hb2
  go_wp2_with fail
  refine (HR.out _ HB2.out).mono ?_
  rintro e w3 ⟨v3, t3, d3, rfl, hv3, hb3⟩
  have hc3 : RepsV (fun b => w2.heap.size ≤ b) w3 v3 cl := by have := hv3.clu; rw [Hcc.out] at this; exact this
  obtain ⟨a3, c3, rfl⟩ := hc3.vshape
  have ht3 : w3.ownsRow w2.heap.size 4 1 t3 n ((runD s n).map .bool) := by have := hv3.told; rw [Hm.out] at this; exact this
  have hd3 : w3.ownsRow w2.heap.size 33 1 d3 n ((runE s n).map (.int .i64)) := by have := hv3.done; rw [Hm.out] at this; exact this
  obtain ⟨⟨ta, tc⟩, rfl⟩ := (show ∃ p : Option Addr × Nat, t3 = .slice p.1 n p.2 from by obtain ⟨a, c, h⟩ := own_shape ht3; exact ⟨(a, c), h⟩)
  obtain ⟨⟨da, dc⟩, rfl⟩ := (show ∃ p : Option Addr × Nat, d3 = .slice p.1 n p.2 from by obtain ⟨a, c, h⟩ := own_shape hd3; exact ⟨(a, c), h⟩)
  have hbA : Below w3.heap.size w3 (w3.alloc (.cells #[.slice a3 cl.length c3] 66)) := (Below.refl _ _).alloc (Nat.le_refl _) _
  have HB5 := Lib.hid (below_next HB2.out (hb3.trans (hbA.mono hb3.size)))
  have Ht5 := Lib.hid (own_below ht3 hbA)
  have Hd5 := Lib.hid (own_below hd3 hbA)
  clear hv3 hc3 ht3 hd3 hb3 hbA HR
  go_upto_region 6 with fail
  generalize w3.alloc (.cells #[.slice a3 cl.length c3] 66) = x5 at *
  generalize w3.heap.size = DR at *
  go_wp2_with fail
  refine (cluNew_new _).mono ?_
  rintro e z1 ⟨v1, rfl, hv, hb1⟩
  obtain ⟨a1, c1, rfl⟩ := hv.vshape
  replace hv : RepsV (fun b => x5.heap.size ≤ b) z1 (.slice a1 3 c1) new3 := hv
  obtain ⟨Q, hQ, hQ1, hQu⟩ := cls_newer x5
  have hQb := hQ.below
  have hQn := hQ.next
  have HQu := Lib.hid hQu
  clear hQu
  have hC1 := hQn _ _ hQ1 hb1
  have hz1 := (hQb _ hC1).size
  have hbA : Below z1.heap.size z1 (z1.alloc (.cells #[.slice a1 3 c1] 66)) := (Below.refl _ _).alloc (Nat.le_refl _) _
  have hQ9 := hQn _ _ hC1 hbA
  have hb9 := heap_alloc_new z1 (.cells #[.slice a1 3 c1] 66)
  have hv9 := (hv.low.below hbA).weaken (S' := fun b => b ≠ z1.heap.size) fun b hb => by omega
  have hD9 := hz1
  have Hb9 := Lib.hid hb9
  have Hv9 := Lib.hid hv9
  clear hb9 hv9 hv hb1 hbA hz1 hC1
  obtain ⟨y9, hy9⟩ : ∃ y9, y9 = (z1.alloc (.cells #[.slice a1 3 c1] 66)) := ⟨_, rfl⟩
  have Hy9 := Lib.hid hy9
  rw [← hy9] at Hb9 Hv9 hQ9
  obtain ⟨D, hD⟩ : ∃ D, D = z1.heap.size := ⟨_, rfl⟩
  have HDz := Lib.hid hD
  rw [← hD] at Hb9 Hv9 hD9
  clear hD hy9
  go_upto_region 7 with fail
  rw [← Hy9.out]
  rw [← HDz.out]
  clear Hy9 HDz
  have HD9 := Lib.hid hD9
  have HBQ := Lib.hid (fun x (hx : In Q x) => below_next HB5.out (hQb _ hx))
  have HA0 := Lib.hid (show ∃ a2 c2, y9.heap[D]? = some (.cells #[.slice a2 3 c2] 66 (0, 0)) ∧ RepsV (fun b => b ≠ D) y9 (.slice a2 3 c2) (runL s 0) from ⟨a1, c1, Hb9.out, Hv9.out⟩)
  clear Hb9 Hv9 hD9
  have qn : ((n : Int) != (n : Int)) = false := by simp
  go_wp2_with fail
  clear qn
  go_loopw [8] (fun i wr => ∃ k : Nat, k ≤ n ∧ i = .int .i64 k ∧ In Q wr ∧ Hid (∃ a2 c2, wr.heap[D]? = some (.cells #[.slice a2 3 c2] 66 (0, 0)) ∧ RepsV (fun b => b ≠ D) wr (.slice a2 3 c2) (runL s k))) (fun i _ => n - (intOf i).toNat)
  case atStart => exact ⟨0, Nat.zero_le _, rfl, hQ9, HA0⟩
  case round =>
   obtain ⟨k, hk, rfl, hQr, HA⟩ := hrel
   obtain ⟨wo, rfl⟩ : ∃ wo : World, wo = wr := ⟨_, rfl⟩
   clear HA0 hQ9
   by_cases hlt : k < n
   case neg =>
    obtain rfl : k = n := by omega
    have HE := Lib.hid (HBQ.out _ hQr)
    go_wp2_with fail
    go_ret
    exact ⟨rfl, HE.out⟩
   case pos =>
    obtain ⟨b0, off0, rfl, _, k0, k1, k2, k3, k4, k5, k6⟩ := H4.out (by omega)
    obtain ⟨T, hT, hT1, hTu⟩ := cls_newer wo
    have hTb := hT.below
    have hTn := hT.next
    have HTu := Lib.hid hTu
    clear hTu
    have HTQ := Lib.hid (fun x (hx : In T x) => hQn _ _ hQr (hTb _ hx))
    have HBT := Lib.hid (fun x (hx : In T x) => HBQ.out _ (HTQ.out _ hx))
    have e0 := fun x (hx : In T x) => k0 k x hlt (HBT.out _ hx)
    have e1 := fun x (hx : In T x) => k1 k x hlt (HBT.out _ hx)
    have e2 := fun x (hx : In T x) => k2 k x hlt (HBT.out _ hx)
    have e3 := fun x (hx : In T x) => k3 k x hlt (HBT.out _ hx)
    have e4 := fun x (hx : In T x) => k4 k x hlt (HBT.out _ hx)
    have e5 := fun x (hx : In T x) => k5 k x hlt (HBT.out _ hx)
    have e6 := fun x (hx : In T x) => k6 k x hlt (HBT.out _ hx)
    have HK0 := Lib.hid (fun x (hx : In T x) => k0 k x hlt (HBT.out _ hx))
    clear k0 k1 k2 k3 k4 k5 k6
    have hj1 : (0 : Int) ≤ (k : Int) := by omega
    have hj2 : (k : Int) < (n : Int) := by omega
    have Hrr := Lib.hid (run_right s k)
    obtain ⟨a2, c2, hbx, hrv⟩ := HA.out
    have hl3 := (run_right s k).len
    have hDl : D < wo.heap.size := lt_of_block hbx
    have hxo := (hQb _ hQr).size
    have dd := fun x (hx : In T x) => block_cell (j := 0) (blk_below hbx (hTb _ hx)) rfl
    have Hrv := Lib.hid hrv
    have Hbx := Lib.hid hbx
    clear hrv hbx hl3
    obtain ⟨d1, d2, d3⟩ := do_right (a := ac s k) (run_right s k)
    have HDo := Lib.hid (fun x (hx : In T x) => deskDo_any (runL s k) (ac s k) _ _ _ _ _ x (Hrv.out.below (hTb _ hx)) ((H5.out k hlt).below (HBT.out _ hx)) (HTw.out.below (HBT.out _ hx)))
    simp only [actV] at HDo
    rw [d1, d2, d3, dof_told] at HDo
    obtain ⟨te, hte⟩ : ∃ te, te = actE (runL s k) (ac s k) := ⟨_, rfl⟩
    obtain ⟨tb, htb⟩ : ∃ tb, tb = toldB (runL s k) (ac s k) := ⟨_, rfl⟩
    obtain ⟨dl, hdl⟩ : ∃ dl, dl = dofL (runL s k) (ac s k) := ⟨_, rfl⟩
    have Hll := Lib.hid (show dl.length ≤ 3 by rw [hdl]; exact dofL_len (run_right s k))
    rw [← hte, ← htb, ← hdl] at HDo
    have Hte := Lib.hid hte
    have Htb := Lib.hid htb
    have Hdl := Lib.hid hdl
    clear d1 d2 d3
    obtain ⟨g1, q2, e7, hg1⟩ := own_one Ht5.out (by omega)
    obtain ⟨g2, q3, e8, hg2⟩ := own_one Hd5.out (by omega)
    obtain ⟨rfl, rfl⟩ : ta = some ⟨g1, 0, none⟩ ∧ tc = q2 := by cases e7; exact ⟨rfl, rfl⟩
    obtain ⟨rfl, rfl⟩ : da = some ⟨g2, 0, none⟩ ∧ dc = q3 := by cases e8; exact ⟨rfl, rfl⟩
    have Y1 := Lib.hid (fun x (hx : In T x) => hg1 x k (.bool tb) (hQb _ (HTQ.out _ hx)) (by rw [List.getElem?_map, runD_at s n hlt, ← htb]; rfl))
    have Y2 := Lib.hid (fun x (hx : In T x) => hg2 x k (.int .i64 te) (hQb _ (HTQ.out _ hx)) (by rw [List.getElem?_map, runE_at s n hlt, ← hte]; rfl))
    clear hg1 hg2 e7 e8 hte htb hdl
    go_upto_region 12 with fail
    go_cut [9, 10, 11] (fun s9 s10 s11 wx => ∃ D9, s9 = .pointer (some ⟨D9, 0, none⟩) ∧ s10 = .bool tb ∧ s11 = .int .i64 te ∧ ∃ y9, y9 = wx ∧ Hid (In T y9 ∧ wo.heap.size ≤ D9 ∧ ∃ a5 c5, y9.heap[D9]? = some (.cells #[.slice a5 dl.length c5] 66 (0, 0)) ∧ RepsV (fun b => (wo.heap.size ≤ b ∧ b < y9.heap.size) ∧ b ≠ D9) y9 (.slice a5 dl.length c5) dl))
    case first =>
     refine wp_region_held (S := In T) (by kernel_rfl) ?_
     change wpAnyH _ _ _ _ _ _ _ _ (World.drew _)
     have hC0 := hT.drew _ hT1
     generalize hx0 : wo.drew = z0 at hC0 ⊢
     clear hx0
     refine wpAnyH_take (i := 0) (v := .agg #[.slice a2 3 c2]) rfl (by kernel_rfl) (by kernel_rfl) (by kernel_rfl) (fun _ _ _ h => h) (Or.inl ⟨by rfl, fun w hSw => ?_⟩) hC0 ?_
     ·have yy := dd _ hSw; go_simp
     simp only [Act.put, List.getElem_toArray, List.getElem_cons_zero, List.getElem_cons_succ, List.setIfInBounds_toArray, List.set_cons_zero, List.set_cons_succ]
     refine wpAnyH_take (i := 1) (v := .slice (some ⟨b0, off0, none⟩) n cap) rfl (by kernel_rfl) (by kernel_rfl) (by kernel_rfl) (fun _ _ _ h => h) (Or.inl ⟨by rfl, fun w hSw => ?_⟩) hC0 ?_
     ·go_simp
     simp only [Act.put, List.getElem_toArray, List.getElem_cons_zero, List.getElem_cons_succ, List.setIfInBounds_toArray, List.set_cons_zero, List.set_cons_succ]
     refine wpAnyH_take (i := 2) (v := .int .i64 (k : Int)) rfl (by kernel_rfl) (by kernel_rfl) (by kernel_rfl) (fun _ _ _ h => h) (Or.inl ⟨by rfl, fun w hSw => ?_⟩) hC0 ?_
     ·go_simp
     simp only [Act.put, List.getElem_toArray, List.getElem_cons_zero, List.getElem_cons_succ, List.setIfInBounds_toArray, List.set_cons_zero, List.set_cons_succ]
     refine wpAnyH_take (i := 3) (v := .pointer (some ⟨b0, off0 + k * 7, none⟩)) rfl (by kernel_rfl) (by kernel_rfl) (by kernel_rfl) (fun _ _ _ h => h) (Or.inl ⟨by rfl, fun w hSw => ?_⟩) hC0 ?_
     ·go_simp
     simp only [Act.put, List.getElem_toArray, List.getElem_cons_zero, List.getElem_cons_succ, List.setIfInBounds_toArray, List.set_cons_zero, List.set_cons_succ]
     refine wpAnyH_take (i := 4) (v := .agg #[.int .i64 (ac s k).kind, .int .i64 (ac s k).on, .int .i64 (ac s k).up, .int .i64 (ac s k).late, .slice (fr k).oa (ac s k).push.objects.length (fr k).oc, .slice (fr k).ua (ac s k).push.updates.length (fr k).uc, .bool (ac s k).push.force]) rfl (by kernel_rfl) (by kernel_rfl) (by kernel_rfl) (fun _ _ _ h => h) (Or.inl ⟨by rfl, fun w hSw => ?_⟩) hC0 ?_
     ·have y0 := e0 _ hSw; have y1 := e1 _ hSw; have y2 := e2 _ hSw; have y3 := e3 _ hSw; have y4 := e4 _ hSw; have y5 := e5 _ hSw; have y6 := e6 _ hSw; go_simp
     simp only [Act.put, List.getElem_toArray, List.getElem_cons_zero, List.getElem_cons_succ, List.setIfInBounds_toArray, List.set_cons_zero, List.set_cons_succ]
     refine wpAnyH_all (rs := [5, 10]) (by kernel_rfl) (by simp) (fun j hj => ?_)
     rcases List.mem_cons.1 hj with rfl | hj
     ·skip
      refine Or.inl ?_
      go_wp2_with fail
      refine (HDo.out _ hC0).mono ?_
      rintro e x20 ⟨v5, rfl, ⟨F5, hO5, hF5⟩, hb1⟩
      obtain ⟨a5, c5, rfl⟩ := hO5.shape
      have hC1 := hTn _ _ hC0 hb1
      have hx9 := (hTb _ hC0).size
      have hv := hO5.reps (S' := fun b => z0.heap.size ≤ b ∧ b < x20.heap.size) (by have := Hll.out; omega) (fun b hb => ⟨hF5 b hb, (hO5.lt hb)⟩) (fun b hb => (hO5.block hb))
      have Hv := Lib.hid (hv.weaken (S' := fun b => wo.heap.size ≤ b ∧ b < x20.heap.size) fun b hb => ⟨by omega, hb.2⟩)
      clear hv hx9 hO5 hF5
      go_simp
      clear hb1
      generalize x20 = z1 at *
      refine wpAnyH_take (i := 6) (v := .tuple #[.agg #[.slice a5 dl.length c5], .bool tb, .int .i64 te]) rfl (by kernel_rfl) (by kernel_rfl) (by kernel_rfl) (fun _ _ _ h => h) (Or.inl ⟨by rfl, fun w hSw => ?_⟩) hC1 ?_
      ·go_simp
      simp only [Act.put, List.getElem_toArray, List.getElem_cons_zero, List.getElem_cons_succ, List.setIfInBounds_toArray, List.set_cons_zero, List.set_cons_succ]
      refine wpAnyH_take (i := 7) (v := .agg #[.slice a5 dl.length c5]) rfl (by kernel_rfl) (by kernel_rfl) (by kernel_rfl) (fun _ _ _ h => h) (Or.inl ⟨by rfl, fun w hSw => ?_⟩) hC1 ?_
      ·go_simp
      simp only [Act.put, List.getElem_toArray, List.getElem_cons_zero, List.getElem_cons_succ, List.setIfInBounds_toArray, List.set_cons_zero, List.set_cons_succ]
      refine wpAnyH_take (i := 8) (v := .bool tb) rfl (by kernel_rfl) (by kernel_rfl) (by kernel_rfl) (fun _ _ _ h => h) (Or.inl ⟨by rfl, fun w hSw => ?_⟩) hC1 ?_
      ·go_simp
      simp only [Act.put, List.getElem_toArray, List.getElem_cons_zero, List.getElem_cons_succ, List.setIfInBounds_toArray, List.set_cons_zero, List.set_cons_succ]
      refine wpAnyH_take (i := 9) (v := .int .i64 te) rfl (by kernel_rfl) (by kernel_rfl) (by kernel_rfl) (fun _ _ _ h => h) (Or.inl ⟨by rfl, fun w hSw => ?_⟩) hC1 ?_
      ·go_simp
      simp only [Act.put, List.getElem_toArray, List.getElem_cons_zero, List.getElem_cons_succ, List.setIfInBounds_toArray, List.set_cons_zero, List.set_cons_succ]
      refine wpAnyH_all (rs := [10]) (by kernel_rfl) (by simp) (fun j hj => ?_)
      obtain rfl : j = 10 := by simpa using hj
      refine Or.inl ?_
      have Hv2 := Lib.hid ((Hv.out.below ((Below.refl _ _).alloc (Nat.le_refl _) (.cells #[.slice none 0 0] 66))).weaken (S' := fun b => (wo.heap.size ≤ b ∧ b < (z1.alloc (.cells #[.slice none 0 0] 66)).heap.size) ∧ b ≠ z1.heap.size) fun b hb => ⟨⟨hb.1, by simp; omega⟩, by omega⟩)
      clear Hv
      have hC2 := hT.alloc _ (.cells #[.slice none 0 0] 66) hC1
      go_simp
      have hbA : Below z1.heap.size z1 (z1.alloc (.cells #[.slice none 0 0] 66)) := (Below.refl _ _).alloc (Nat.le_refl _) _
      have HDb := Lib.hid (heap_alloc_new z1 (.cells #[.slice none 0 0] 66))
      have HDge := Lib.hid (hTb _ hC1).size
      clear hbA
      generalize z1.heap.size = D5 at *
      generalize z1.alloc (.cells #[.slice none 0 0] 66) = z2 at *
      refine wpAnyH_all (rs := [11]) (by kernel_rfl) (by simp) (fun j hj => ?_)
      obtain rfl : j = 11 := by simpa using hj
      refine Or.inl ?_
      have hblk := HDb.out
      have p0 := block_cell (j := 0) hblk rfl
      have q0 := block_free (j := 0) hblk
      have Hb7 := Lib.hid (show (z2.setCell ⟨D5, 0, none⟩ (.slice a5 dl.length c5)).heap[D5]? = some (.cells #[.slice a5 dl.length c5] 66 (0, 0)) from block_setCell (j := 0) hblk (.slice a5 dl.length c5))
      have Hu7 := Lib.hid (show Upd (fun b => b = D5) z2 (z2.setCell ⟨D5, 0, none⟩ (.slice a5 dl.length c5)) from (Upd.refl (fun b => b = D5) _).setCell (p := ⟨D5, 0, none⟩) (fun _ => rfl) _)
      have hC3 := HTu.out _ _ _ hC2 Hu7.out (fun b hb => by have := HDge.out; have e2 : b = D5 := hb; omega)
      have Hv7 := Lib.hid ((Hv2.out.upd Hu7.out (fun b hb e => hb.2 e)).weaken (S' := fun b => (wo.heap.size ≤ b ∧ b < (z2.setCell ⟨D5, 0, none⟩ (.slice a5 dl.length c5)).heap.size) ∧ b ≠ D5) fun b hb => ⟨⟨hb.1.1, by have := hb.1.2; have := Hu7.out.size; omega⟩, hb.2⟩)
      go_wp2_with fail
      first | refine ⟨hC3, ?_⟩ | skip
      change wpAnyH _ _ _ _ _ _ _ _ (z2.setCell ⟨D5, 0, none⟩ (.slice a5 dl.length c5))
      generalize (z2.setCell ⟨D5, 0, none⟩ (.slice a5 dl.length c5)) = z3 at *
      clear hblk Hu7 p0 q0
      refine wpAnyH_take (i := 12) (v := .bool tb) rfl (by kernel_rfl) (by kernel_rfl) (by kernel_rfl) (fun _ _ _ h => h) (Or.inl ⟨by rfl, fun w hSw => ?_⟩) hC3 ?_
      ·go_simp
      simp only [Act.put, List.getElem_toArray, List.getElem_cons_zero, List.getElem_cons_succ, List.setIfInBounds_toArray, List.set_cons_zero, List.set_cons_succ]
      refine wpAnyH_take (i := 13) (v := .int .i64 te) rfl (by kernel_rfl) (by kernel_rfl) (by kernel_rfl) (fun _ _ _ h => h) (Or.inl ⟨by rfl, fun w hSw => ?_⟩) hC3 ?_
      ·go_simp
      simp only [Act.put, List.getElem_toArray, List.getElem_cons_zero, List.getElem_cons_succ, List.setIfInBounds_toArray, List.set_cons_zero, List.set_cons_succ]
      refine wpAnyH_done (by kernel_rfl) ?_ _
      have HEnd := Lib.hid (show In T z3 ∧ wo.heap.size ≤ D5 ∧ ∃ a5 c5, z3.heap[D5]? = some (.cells #[.slice a5 dl.length c5] 66 (0, 0)) ∧ RepsV (fun b => (wo.heap.size ≤ b ∧ b < z3.heap.size) ∧ b ≠ D5) z3 (.slice a5 dl.length c5) dl from ⟨hC3, HDge.out, a5, c5, Hb7.out, Hv7.out⟩)
      go_wp2_with fail
      go_meet
      exact ⟨D5, rfl, rfl, rfl, z3, rfl, HEnd⟩
     ·skip
      obtain rfl : j = 10 := by simpa using hj
      refine Or.inl ?_
      have hC1 := hT.alloc _ (.cells #[.slice none 0 0] 66) hC0
      go_simp
      have hbA : Below z0.heap.size z0 (z0.alloc (.cells #[.slice none 0 0] 66)) := (Below.refl _ _).alloc (Nat.le_refl _) _
      have HDb := Lib.hid (heap_alloc_new z0 (.cells #[.slice none 0 0] 66))
      have HDge := Lib.hid (hTb _ hC0).size
      clear hbA
      generalize z0.heap.size = D5 at *
      generalize z0.alloc (.cells #[.slice none 0 0] 66) = z1 at *
      refine wpAnyH_all (rs := [5]) (by kernel_rfl) (by simp) (fun j hj => ?_)
      obtain rfl : j = 5 := by simpa using hj
      refine Or.inl ?_
      go_wp2_with fail
      refine (HDo.out _ hC1).mono ?_
      rintro e x20 ⟨v5, rfl, ⟨F5, hO5, hF5⟩, hb1⟩
      obtain ⟨a5, c5, rfl⟩ := hO5.shape
      have hC2 := hTn _ _ hC1 hb1
      have HDx := Lib.hid (show D5 < z1.heap.size from lt_of_block HDb.out)
      replace HDb := Lib.hid (blk_below HDb.out hb1)
      have hx9 := (hTb _ hC1).size
      have hv := hO5.reps (S' := fun b => z1.heap.size ≤ b ∧ b < x20.heap.size) (by have := Hll.out; omega) (fun b hb => ⟨hF5 b hb, (hO5.lt hb)⟩) (fun b hb => (hO5.block hb))
      have Hv2 := Lib.hid (hv.weaken (S' := fun b => (wo.heap.size ≤ b ∧ b < x20.heap.size) ∧ b ≠ D5) fun b hb => ⟨⟨by omega, hb.2⟩, fun e => by have := HDx.out; omega⟩)
      clear hv hx9 hO5 hF5
      go_simp
      clear hb1
      generalize x20 = z2 at *
      refine wpAnyH_take (i := 6) (v := .tuple #[.agg #[.slice a5 dl.length c5], .bool tb, .int .i64 te]) rfl (by kernel_rfl) (by kernel_rfl) (by kernel_rfl) (fun _ _ _ h => h) (Or.inl ⟨by rfl, fun w hSw => ?_⟩) hC2 ?_
      ·go_simp
      simp only [Act.put, List.getElem_toArray, List.getElem_cons_zero, List.getElem_cons_succ, List.setIfInBounds_toArray, List.set_cons_zero, List.set_cons_succ]
      refine wpAnyH_take (i := 7) (v := .agg #[.slice a5 dl.length c5]) rfl (by kernel_rfl) (by kernel_rfl) (by kernel_rfl) (fun _ _ _ h => h) (Or.inl ⟨by rfl, fun w hSw => ?_⟩) hC2 ?_
      ·go_simp
      simp only [Act.put, List.getElem_toArray, List.getElem_cons_zero, List.getElem_cons_succ, List.setIfInBounds_toArray, List.set_cons_zero, List.set_cons_succ]
      refine wpAnyH_take (i := 8) (v := .bool tb) rfl (by kernel_rfl) (by kernel_rfl) (by kernel_rfl) (fun _ _ _ h => h) (Or.inl ⟨by rfl, fun w hSw => ?_⟩) hC2 ?_
      ·go_simp
      simp only [Act.put, List.getElem_toArray, List.getElem_cons_zero, List.getElem_cons_succ, List.setIfInBounds_toArray, List.set_cons_zero, List.set_cons_succ]
      refine wpAnyH_take (i := 9) (v := .int .i64 te) rfl (by kernel_rfl) (by kernel_rfl) (by kernel_rfl) (fun _ _ _ h => h) (Or.inl ⟨by rfl, fun w hSw => ?_⟩) hC2 ?_
      ·go_simp
      simp only [Act.put, List.getElem_toArray, List.getElem_cons_zero, List.getElem_cons_succ, List.setIfInBounds_toArray, List.set_cons_zero, List.set_cons_succ]
      refine wpAnyH_all (rs := [11]) (by kernel_rfl) (by simp) (fun j hj => ?_)
      obtain rfl : j = 11 := by simpa using hj
      refine Or.inl ?_
      have hblk := HDb.out
      have p0 := block_cell (j := 0) hblk rfl
      have q0 := block_free (j := 0) hblk
      have Hb7 := Lib.hid (show (z2.setCell ⟨D5, 0, none⟩ (.slice a5 dl.length c5)).heap[D5]? = some (.cells #[.slice a5 dl.length c5] 66 (0, 0)) from block_setCell (j := 0) hblk (.slice a5 dl.length c5))
      have Hu7 := Lib.hid (show Upd (fun b => b = D5) z2 (z2.setCell ⟨D5, 0, none⟩ (.slice a5 dl.length c5)) from (Upd.refl (fun b => b = D5) _).setCell (p := ⟨D5, 0, none⟩) (fun _ => rfl) _)
      have hC3 := HTu.out _ _ _ hC2 Hu7.out (fun b hb => by have := HDge.out; have e2 : b = D5 := hb; omega)
      have Hv7 := Lib.hid ((Hv2.out.upd Hu7.out (fun b hb e => hb.2 e)).weaken (S' := fun b => (wo.heap.size ≤ b ∧ b < (z2.setCell ⟨D5, 0, none⟩ (.slice a5 dl.length c5)).heap.size) ∧ b ≠ D5) fun b hb => ⟨⟨hb.1.1, by have := hb.1.2; have := Hu7.out.size; omega⟩, hb.2⟩)
      go_wp2_with fail
      first | refine ⟨hC3, ?_⟩ | skip
      change wpAnyH _ _ _ _ _ _ _ _ (z2.setCell ⟨D5, 0, none⟩ (.slice a5 dl.length c5))
      generalize (z2.setCell ⟨D5, 0, none⟩ (.slice a5 dl.length c5)) = z3 at *
      clear hblk Hu7 p0 q0
      refine wpAnyH_take (i := 12) (v := .bool tb) rfl (by kernel_rfl) (by kernel_rfl) (by kernel_rfl) (fun _ _ _ h => h) (Or.inl ⟨by rfl, fun w hSw => ?_⟩) hC3 ?_
      ·go_simp
      simp only [Act.put, List.getElem_toArray, List.getElem_cons_zero, List.getElem_cons_succ, List.setIfInBounds_toArray, List.set_cons_zero, List.set_cons_succ]
      refine wpAnyH_take (i := 13) (v := .int .i64 te) rfl (by kernel_rfl) (by kernel_rfl) (by kernel_rfl) (fun _ _ _ h => h) (Or.inl ⟨by rfl, fun w hSw => ?_⟩) hC3 ?_
      ·go_simp
      simp only [Act.put, List.getElem_toArray, List.getElem_cons_zero, List.getElem_cons_succ, List.setIfInBounds_toArray, List.set_cons_zero, List.set_cons_succ]
      refine wpAnyH_done (by kernel_rfl) ?_ _
      have HEnd := Lib.hid (show In T z3 ∧ wo.heap.size ≤ D5 ∧ ∃ a5 c5, z3.heap[D5]? = some (.cells #[.slice a5 dl.length c5] 66 (0, 0)) ∧ RepsV (fun b => (wo.heap.size ≤ b ∧ b < z3.heap.size) ∧ b ≠ D5) z3 (.slice a5 dl.length c5) dl from ⟨hC3, HDge.out, a5, c5, Hb7.out, Hv7.out⟩)
      go_wp2_with fail
      go_meet
      exact ⟨D5, rfl, rfl, rfl, z3, rfl, HEnd⟩
    case rest =>
     obtain ⟨D9, rfl, rfl, rfl, y7, rfl, HK9⟩ := hcut
     obtain ⟨hT7, hD7, a5, c5, hb7, hv7⟩ := HK9.out
     have hQ7 := HTQ.out _ hT7
     have hb37 := hTb _ hT7
     have HD3 := Lib.hid (blk_below Hbx.out hb37)
     have HVo := Lib.hid (Hrv.out.below hb37)
     have Hb7 := Lib.hid hb7
     have Hv7 := Lib.hid hv7
     have y1 := Y1.out _ hT7
     have y2 := Y2.out _ hT7
     clear HK9 hb7 hv7 hb37 HDo dd e0 e1 e2 e3 e4 e5 e6
     have qe : (te != te) = false := by simp
     have qb : (tb != tb) = false := by simp
     by_cases hz : te = 0
     case neg =>
      have q9 : (te != 0) = true := by simpa using hz
      have hrl : runL s (k + 1) = runL s k := by show stepL (runL s k) (ac s k) = _; unfold stepL; rw [if_neg (by rw [← Hte.out]; exact hz)]
      have HEnd := Lib.hid (show ∃ a2 c2, y7.heap[D]? = some (.cells #[.slice a2 3 c2] 66 (0, 0)) ∧ RepsV (fun b => b ≠ D) y7 (.slice a2 3 c2) (runL s (k + 1)) from ⟨a2, c2, HD3.out, by rw [hrl]; exact HVo.out⟩)
      clear hz hrl
      go_wp2_with fail
      go_roundw
      case rel => exact ⟨k + 1, by omega, by go_num, hQ7, HEnd⟩
      case measure => simp [intOf]; omega
     case pos =>
      have q9 : (te != 0) = false := by simpa using hz
      have he0 : actE (runL s k) (ac s k) = 0 := by rw [← Hte.out]; exact hz
      have hda : dl = actL (runL s k) (ac s k) := by rw [Hdl.out]; unfold dofL; rw [if_pos he0]
      have hba : tb = actD (runL s k) (ac s k) := by rw [Htb.out]; unfold toldB; rw [if_pos he0]
      have hrl : runL s (k + 1) = dl := by rw [Hdl.out]; show stepL (runL s k) (ac s k) = _; unfold stepL dofL; rw [if_pos he0, if_pos he0]
      have hdr : RightC dl := by rw [hda]; exact act_right (run_right s k) he0
      have hd3 := hdr.len
      have hst := stayL (run_right s k) he0
      rw [← hda, ← hba] at hst
      rw [hd3] at Hb7 Hv7
      have Hst := Lib.hid hst
      have Hdr := Lib.hid hdr
      have Hrl := Lib.hid hrl
      clear hst hdr hrl hda hba
      rw [hz] at y2
      subst hz
      clear he0 qe
      obtain ⟨U, hU, hU1, hUu⟩ := cls_newer y7
      have hUb := hU.below
      have hUn := hU.next
      have HUu := Lib.hid hUu
      clear hUu
      have HUT := Lib.hid (fun x (hx : In U x) => hTn _ _ hT7 (hUb _ hx))
      have HS1 := Lib.hid (fun x (hx : In U x) => deskShow_any (runL s k) _ _ x (HVo.out.below (hUb _ hx)) (HTw.out.below (HBT.out _ (HUT.out _ hx))))
      have HS2 := Lib.hid (fun x (hx : In U x) => deskShow_any dl _ _ x (Hv7.out.below (hUb _ hx)) (HTw.out.below (HBT.out _ (HUT.out _ hx))))
      have HW1 := Lib.hid (fun x (hx : In U x) => newest_any dl _ _ x (Hv7.out.below (hUb _ hx)))
      have HW2b := Lib.hid (fun x (hx : In U x) => newest_any (runL s k) _ _ x (HVo.out.below (hUb _ hx)))
      have z1 := clu_right.2 Hrr.out
      have z2 := clu_right.2 Hdr.out
      rw [z1] at HS1
      rw [z2] at HS2
      rw [z2, show newN dl = (best dl : Int) by unfold newN; rw [if_pos z2]] at HW1
      rw [z1, show newN (runL s k) = (best (runL s k) : Int) by unfold newN; rw [if_pos z1]] at HW2b
      clear z1 z2
      have u0 := fun x (hx : In U x) => block_cell (j := 0) (blk_below HD3.out (hUb _ hx)) rfl
      have u1 := fun x (hx : In U x) => block_cell (j := 0) (blk_below Hb7.out (hUb _ hx)) rfl
      have hbc := (best_three Hrr.out.len).1
      have hbd := (best_three Hdr.out.len).1
      have hgc : 0 ≤ topG (runL s k) ∧ topG (runL s k) ≤ 999 := (Hrr.out.each _ hbc).gen
      have hgd : 0 ≤ topG dl ∧ topG dl ≤ 999 := (Hdr.out.each _ hbd).gen
      obtain ⟨_, _, _, fc, _, hsc, _, _, _, hc4, _⟩ := HVo.out.open
      obtain ⟨_, _, _, fd, _, hsd, _, _, _, hd4, _⟩ := Hv7.out.open
      obtain ⟨rfl, rfl, rfl⟩ := Value.slice.inj hsc
      obtain ⟨rfl, rfl, rfl⟩ := Value.slice.inj hsd
      obtain ⟨bc, oc, rfl, _, _, _, gc2, _⟩ := hc4 (by omega)
      obtain ⟨bd, od, rfl, _, _, _, gd2, _⟩ := hd4 (by omega)
      have G1 := Lib.hid (fun x (hx : In U x) => (show x.cell? ⟨bc, oc + best (runL s k) * 7 + 2, none⟩ = some (.int .i64 (topG (runL s k))) from gc2 _ x hbc (hUb _ hx)))
      have G2 := Lib.hid (fun x (hx : In U x) => (show x.cell? ⟨bd, od + best dl * 7 + 2, none⟩ = some (.int .i64 (topG dl)) from gd2 _ x hbd (hUb _ hx)))
      clear hc4 hd4 gc2 gd2 hsc hsd
      have K0 := Lib.hid (fun x (hx : In U x) => HK0.out x (HUT.out x hx))
      obtain ⟨hg, hp, hs⟩ := Hst.out
      generalize hc1 : showC (runL s k) = shc at *
      generalize hc2 : showC dl = shd at *
      clear hc1 hc2
      generalize hgl1 : topG (runL s k) = gc at *
      generalize hgl2 : topG dl = gd at *
      clear hgl1 hgl2
      generalize hbl1 : best (runL s k) = bi at *
      generalize hbl2 : best dl = bj at *
      clear hbl1 hbl2
      generalize hkk : (ac s k).kind = kd at *
      clear hkk Hst
      have HUQ := Lib.hid (fun x (hx : In U x) => HTQ.out _ (HUT.out _ hx))
      have r0 := u0 _ hU1
      go_wp2_with fail
      refine (HS1.out _ hU1).mono ?_
      rintro e x1 ⟨rfl, hb1⟩
      have hU2 := hUn _ _ hU1 hb1
      clear hb1 r0 y1 y2
      have r1 := u1 _ hU2
      go_wp2_with fail
      refine (HS2.out _ hU2).mono ?_
      rintro e x2 ⟨rfl, hb1⟩
      have hU3 := hUn _ _ hU2 hb1
      clear hb1 r1
      have r1 := u1 _ hU3
      go_wp2_with fail
      refine (HW1.out _ hU3).mono ?_
      rintro e x3 ⟨rfl, hb1⟩
      have hU4 := hUn _ _ hU3 hb1
      clear hb1 r1
      have r0 := u0 _ hU4
      go_wp2_with fail
      refine (HW2b.out _ hU4).mono ?_
      rintro e x4 ⟨rfl, hb1⟩
      have hU5 := hUn _ _ hU4 hb1
      clear hb1 r0 HS1 HS2 HW1 HW2b
      have r0 := u0 _ hU5
      have r1 := u1 _ hU5
      have hi1 : ¬ (bi : Int) < 0 := by omega
      have hi2 : ¬ (3 : Int) ≤ (bi : Int) := by omega
      have hi3 : ¬ (bj : Int) < 0 := by omega
      have hi4 : ¬ (3 : Int) ≤ (bj : Int) := by omega
      have hi5 : (0 : Int) ≤ (bi : Int) := by omega
      have hi6 : (bi : Int) < 3 := by omega
      have hi7 : (0 : Int) ≤ (bj : Int) := by omega
      have hi8 : (bj : Int) < 3 := by omega
      go_upto_region 22 with fail
      clear r0 r1
      have hwr := wrap_in (n := gd - gc) (by omega)
      go_cut [20] (fun s20 wx => s20 = .int .i64 (gd - gc) ∧ ∃ y8, y8 = wx ∧ Hid (In U y8))
      case first =>
       refine wp_region_held (S := In U) (by kernel_rfl) ?_
       change wpAnyH _ _ _ _ _ _ _ _ (World.drew _)
       have hC0 := hU.drew _ hU5
       generalize hx0 : x4.drew = z0 at hC0 ⊢
       clear hx0
       refine wpAnyH_take (i := 0) (v := .pointer (some ⟨D9, 0, none⟩)) rfl (by kernel_rfl) (by kernel_rfl) (by kernel_rfl) (fun _ _ _ h => h) (Or.inl ⟨by rfl, fun w hSw => ?_⟩) hC0 ?_
       ·go_simp
       simp only [Act.put, List.getElem_toArray, List.getElem_cons_zero, List.getElem_cons_succ, List.setIfInBounds_toArray, List.set_cons_zero, List.set_cons_succ]
       refine wpAnyH_take (i := 1) (v := .slice (some ⟨bd, od, none⟩) 3 c5) rfl (by kernel_rfl) (by kernel_rfl) (by kernel_rfl) (fun _ _ _ h => h) (Or.inl ⟨by rfl, fun w hSw => ?_⟩) hC0 ?_
       ·have yy := u1 _ hSw; go_simp
       simp only [Act.put, List.getElem_toArray, List.getElem_cons_zero, List.getElem_cons_succ, List.setIfInBounds_toArray, List.set_cons_zero, List.set_cons_succ]
       refine wpAnyH_take (i := 2) (v := .int .i64 (bj : Int)) rfl (by kernel_rfl) (by kernel_rfl) (by kernel_rfl) (fun _ _ _ h => h) (Or.inl ⟨by rfl, fun w hSw => ?_⟩) hC0 ?_
       ·go_simp
       simp only [Act.put, List.getElem_toArray, List.getElem_cons_zero, List.getElem_cons_succ, List.setIfInBounds_toArray, List.set_cons_zero, List.set_cons_succ]
       refine wpAnyH_take (i := 3) (v := .pointer (some ⟨bd, od + bj * 7, none⟩)) rfl (by kernel_rfl) (by kernel_rfl) (by kernel_rfl) (fun _ _ _ h => h) (Or.inl ⟨by rfl, fun w hSw => ?_⟩) hC0 ?_
       ·go_simp
       simp only [Act.put, List.getElem_toArray, List.getElem_cons_zero, List.getElem_cons_succ, List.setIfInBounds_toArray, List.set_cons_zero, List.set_cons_succ]
       refine wpAnyH_take (i := 4) (v := .pointer (some ⟨bd, od + bj * 7 + 2, none⟩)) rfl (by kernel_rfl) (by kernel_rfl) (by kernel_rfl) (fun _ _ _ h => h) (Or.inl ⟨by rfl, fun w hSw => ?_⟩) hC0 ?_
       ·go_simp
       simp only [Act.put, List.getElem_toArray, List.getElem_cons_zero, List.getElem_cons_succ, List.setIfInBounds_toArray, List.set_cons_zero, List.set_cons_succ]
       refine wpAnyH_take (i := 5) (v := .int .i64 gd) rfl (by kernel_rfl) (by kernel_rfl) (by kernel_rfl) (fun _ _ _ h => h) (Or.inl ⟨by rfl, fun w hSw => ?_⟩) hC0 ?_
       ·have yy := G2.out _ hSw; go_simp
       simp only [Act.put, List.getElem_toArray, List.getElem_cons_zero, List.getElem_cons_succ, List.setIfInBounds_toArray, List.set_cons_zero, List.set_cons_succ]
       refine wpAnyH_take (i := 6) (v := .pointer (some ⟨D, 0, none⟩)) rfl (by kernel_rfl) (by kernel_rfl) (by kernel_rfl) (fun _ _ _ h => h) (Or.inl ⟨by rfl, fun w hSw => ?_⟩) hC0 ?_
       ·go_simp
       simp only [Act.put, List.getElem_toArray, List.getElem_cons_zero, List.getElem_cons_succ, List.setIfInBounds_toArray, List.set_cons_zero, List.set_cons_succ]
       refine wpAnyH_take (i := 7) (v := .slice (some ⟨bc, oc, none⟩) 3 c2) rfl (by kernel_rfl) (by kernel_rfl) (by kernel_rfl) (fun _ _ _ h => h) (Or.inl ⟨by rfl, fun w hSw => ?_⟩) hC0 ?_
       ·have yy := u0 _ hSw; go_simp
       simp only [Act.put, List.getElem_toArray, List.getElem_cons_zero, List.getElem_cons_succ, List.setIfInBounds_toArray, List.set_cons_zero, List.set_cons_succ]
       refine wpAnyH_take (i := 8) (v := .int .i64 (bi : Int)) rfl (by kernel_rfl) (by kernel_rfl) (by kernel_rfl) (fun _ _ _ h => h) (Or.inl ⟨by rfl, fun w hSw => ?_⟩) hC0 ?_
       ·go_simp
       simp only [Act.put, List.getElem_toArray, List.getElem_cons_zero, List.getElem_cons_succ, List.setIfInBounds_toArray, List.set_cons_zero, List.set_cons_succ]
       refine wpAnyH_take (i := 9) (v := .pointer (some ⟨bc, oc + bi * 7, none⟩)) rfl (by kernel_rfl) (by kernel_rfl) (by kernel_rfl) (fun _ _ _ h => h) (Or.inl ⟨by rfl, fun w hSw => ?_⟩) hC0 ?_
       ·go_simp
       simp only [Act.put, List.getElem_toArray, List.getElem_cons_zero, List.getElem_cons_succ, List.setIfInBounds_toArray, List.set_cons_zero, List.set_cons_succ]
       refine wpAnyH_take (i := 10) (v := .pointer (some ⟨bc, oc + bi * 7 + 2, none⟩)) rfl (by kernel_rfl) (by kernel_rfl) (by kernel_rfl) (fun _ _ _ h => h) (Or.inl ⟨by rfl, fun w hSw => ?_⟩) hC0 ?_
       ·go_simp
       simp only [Act.put, List.getElem_toArray, List.getElem_cons_zero, List.getElem_cons_succ, List.setIfInBounds_toArray, List.set_cons_zero, List.set_cons_succ]
       refine wpAnyH_take (i := 11) (v := .int .i64 gc) rfl (by kernel_rfl) (by kernel_rfl) (by kernel_rfl) (fun _ _ _ h => h) (Or.inl ⟨by rfl, fun w hSw => ?_⟩) hC0 ?_
       ·have yy := G1.out _ hSw; go_simp
       simp only [Act.put, List.getElem_toArray, List.getElem_cons_zero, List.getElem_cons_succ, List.setIfInBounds_toArray, List.set_cons_zero, List.set_cons_succ]
       refine wpAnyH_take (i := 12) (v := .int .i64 (gd - gc)) rfl (by kernel_rfl) (by kernel_rfl) (by kernel_rfl) (fun _ _ _ h => h) (Or.inl ⟨by rfl, fun w hSw => ?_⟩) hC0 ?_
       ·go_simp
       simp only [Act.put, List.getElem_toArray, List.getElem_cons_zero, List.getElem_cons_succ, List.setIfInBounds_toArray, List.set_cons_zero, List.set_cons_succ]
       refine wpAnyH_take (i := 13) (v := .int .i64 (gd - gc)) rfl (by kernel_rfl) (by kernel_rfl) (by kernel_rfl) (fun _ _ _ h => h) (Or.inl ⟨by rfl, fun w hSw => ?_⟩) hC0 ?_
       ·go_simp
       simp only [Act.put, List.getElem_toArray, List.getElem_cons_zero, List.getElem_cons_succ, List.setIfInBounds_toArray, List.set_cons_zero, List.set_cons_succ]
       refine wpAnyH_done (by kernel_rfl) ?_ _
       go_wp2_with fail
       go_meet
       exact ⟨rfl, z0, rfl, Lib.hid hC0⟩
      case rest =>
       obtain ⟨rfl, wx, rfl, HU6⟩ := hcut
       have hU6 := HU6.out
       clear hwr hU5 hU1
       by_cases hk1 : kd = 1
       case pos =>
        obtain hp := hp hk1
        have qk : (kd == 1) = true := by simpa using hk1
        rcases hg with hg | hg
        ·skip
         obtain rfl : tb = false := by cases hb : tb; rfl; rw [hb] at hp; have := hp.1 rfl; omega
         obtain rfl := hs hg
         rw [hg]
         have r1 := u1 _ hU6
         have k0 := K0.out _ hU6
         have hDb := blk_below HD3.out (hUb _ hU6)
         have gz := block_cell (j := 0) hDb rfl
         have fz := block_free (j := 0) hDb
         have hVn := Hv7.out.below (hUb _ hU6)
         have hu4 : Upd (fun b => b = D) wx (wx.setCell ⟨D, 0, none⟩ (.slice (some ⟨bd, od, none⟩) 3 c5)) := (Upd.refl (fun b => b = D) wx).setCell (p := ⟨D, 0, none⟩) (fun _ => rfl) _
         have hD4 : (wx.setCell ⟨D, 0, none⟩ (.slice (some ⟨bd, od, none⟩) 3 c5)).heap[D]? = some (.cells #[.slice (some ⟨bd, od, none⟩) 3 c5] 66 (0, 0)) := block_setCell (j := 0) hDb (.slice (some ⟨bd, od, none⟩) 3 c5)
         have hQ4 := HQu.out _ _ _ (HUQ.out _ hU6) hu4 (fun b hb => by have e2 : b = D := hb; have := HD9.out; omega)
         have HEnd := Lib.hid (show ∃ a2 c2, (wx.setCell ⟨D, 0, none⟩ (.slice (some ⟨bd, od, none⟩) 3 c5)).heap[D]? = some (.cells #[.slice a2 3 c2] 66 (0, 0)) ∧ RepsV (fun b => b ≠ D) (wx.setCell ⟨D, 0, none⟩ (.slice (some ⟨bd, od, none⟩) 3 c5)) (.slice a2 3 c2) (runL s (k + 1)) from ⟨_, _, hD4, by rw [Hrl.out]; exact (hVn.upd hu4 (fun b hb e => by have e2 : b = D := e; have := hb.1.1; omega)).weaken fun b hb e => by have := hb.1.1; omega⟩)
         clear hu4 hD4 hVn hDb
         go_wp2_with fail
         go_roundw
         case rel => exact ⟨k + 1, by omega, by go_num, hQ4, HEnd⟩
         case measure => simp [intOf]; omega
        ·skip
         obtain rfl : tb = true := hp.2 hg
         rw [hg]
         have r1 := u1 _ hU6
         have k0 := K0.out _ hU6
         have hDb := blk_below HD3.out (hUb _ hU6)
         have gz := block_cell (j := 0) hDb rfl
         have fz := block_free (j := 0) hDb
         have hVn := Hv7.out.below (hUb _ hU6)
         have hu4 : Upd (fun b => b = D) wx (wx.setCell ⟨D, 0, none⟩ (.slice (some ⟨bd, od, none⟩) 3 c5)) := (Upd.refl (fun b => b = D) wx).setCell (p := ⟨D, 0, none⟩) (fun _ => rfl) _
         have hD4 : (wx.setCell ⟨D, 0, none⟩ (.slice (some ⟨bd, od, none⟩) 3 c5)).heap[D]? = some (.cells #[.slice (some ⟨bd, od, none⟩) 3 c5] 66 (0, 0)) := block_setCell (j := 0) hDb (.slice (some ⟨bd, od, none⟩) 3 c5)
         have hQ4 := HQu.out _ _ _ (HUQ.out _ hU6) hu4 (fun b hb => by have e2 : b = D := hb; have := HD9.out; omega)
         have HEnd := Lib.hid (show ∃ a2 c2, (wx.setCell ⟨D, 0, none⟩ (.slice (some ⟨bd, od, none⟩) 3 c5)).heap[D]? = some (.cells #[.slice a2 3 c2] 66 (0, 0)) ∧ RepsV (fun b => b ≠ D) (wx.setCell ⟨D, 0, none⟩ (.slice (some ⟨bd, od, none⟩) 3 c5)) (.slice a2 3 c2) (runL s (k + 1)) from ⟨_, _, hD4, by rw [Hrl.out]; exact (hVn.upd hu4 (fun b hb e => by have e2 : b = D := e; have := hb.1.1; omega)).weaken fun b hb e => by have := hb.1.1; omega⟩)
         clear hu4 hD4 hVn hDb
         go_wp2_with fail
         go_roundw
         case rel => exact ⟨k + 1, by omega, by go_num, hQ4, HEnd⟩
         case measure => simp [intOf]; omega
       case neg =>
        clear hp
        have qk : (kd == 1) = false := by simpa using hk1
        rcases hg with hg | hg
        ·skip
         obtain rfl := hs hg
         rw [hg]
         have r1 := u1 _ hU6
         have k0 := K0.out _ hU6
         have hDb := blk_below HD3.out (hUb _ hU6)
         have gz := block_cell (j := 0) hDb rfl
         have fz := block_free (j := 0) hDb
         have hVn := Hv7.out.below (hUb _ hU6)
         have hu4 : Upd (fun b => b = D) wx (wx.setCell ⟨D, 0, none⟩ (.slice (some ⟨bd, od, none⟩) 3 c5)) := (Upd.refl (fun b => b = D) wx).setCell (p := ⟨D, 0, none⟩) (fun _ => rfl) _
         have hD4 : (wx.setCell ⟨D, 0, none⟩ (.slice (some ⟨bd, od, none⟩) 3 c5)).heap[D]? = some (.cells #[.slice (some ⟨bd, od, none⟩) 3 c5] 66 (0, 0)) := block_setCell (j := 0) hDb (.slice (some ⟨bd, od, none⟩) 3 c5)
         have hQ4 := HQu.out _ _ _ (HUQ.out _ hU6) hu4 (fun b hb => by have e2 : b = D := hb; have := HD9.out; omega)
         have HEnd := Lib.hid (show ∃ a2 c2, (wx.setCell ⟨D, 0, none⟩ (.slice (some ⟨bd, od, none⟩) 3 c5)).heap[D]? = some (.cells #[.slice a2 3 c2] 66 (0, 0)) ∧ RepsV (fun b => b ≠ D) (wx.setCell ⟨D, 0, none⟩ (.slice (some ⟨bd, od, none⟩) 3 c5)) (.slice a2 3 c2) (runL s (k + 1)) from ⟨_, _, hD4, by rw [Hrl.out]; exact (hVn.upd hu4 (fun b hb e => by have e2 : b = D := e; have := hb.1.1; omega)).weaken fun b hb e => by have := hb.1.1; omega⟩)
         clear hu4 hD4 hVn hDb
         go_wp2_with fail
         go_roundw
         case rel => exact ⟨k + 1, by omega, by go_num, hQ4, HEnd⟩
         case measure => simp [intOf]; omega
        ·skip
         rw [hg]
         have r1 := u1 _ hU6
         have k0 := K0.out _ hU6
         have hDb := blk_below HD3.out (hUb _ hU6)
         have gz := block_cell (j := 0) hDb rfl
         have fz := block_free (j := 0) hDb
         have hVn := Hv7.out.below (hUb _ hU6)
         have hu4 : Upd (fun b => b = D) wx (wx.setCell ⟨D, 0, none⟩ (.slice (some ⟨bd, od, none⟩) 3 c5)) := (Upd.refl (fun b => b = D) wx).setCell (p := ⟨D, 0, none⟩) (fun _ => rfl) _
         have hD4 : (wx.setCell ⟨D, 0, none⟩ (.slice (some ⟨bd, od, none⟩) 3 c5)).heap[D]? = some (.cells #[.slice (some ⟨bd, od, none⟩) 3 c5] 66 (0, 0)) := block_setCell (j := 0) hDb (.slice (some ⟨bd, od, none⟩) 3 c5)
         have hQ4 := HQu.out _ _ _ (HUQ.out _ hU6) hu4 (fun b hb => by have e2 : b = D := hb; have := HD9.out; omega)
         have HEnd := Lib.hid (show ∃ a2 c2, (wx.setCell ⟨D, 0, none⟩ (.slice (some ⟨bd, od, none⟩) 3 c5)).heap[D]? = some (.cells #[.slice a2 3 c2] 66 (0, 0)) ∧ RepsV (fun b => b ≠ D) (wx.setCell ⟨D, 0, none⟩ (.slice (some ⟨bd, od, none⟩) 3 c5)) (.slice a2 3 c2) (runL s (k + 1)) from ⟨_, _, hD4, by rw [Hrl.out]; exact (hVn.upd hu4 (fun b hb e => by have e2 : b = D := e; have := hb.1.1; omega)).weaken fun b hb e => by have := hb.1.1; omega⟩)
         clear hu4 hD4 hVn hDb
         go_wp2_with fail
         go_roundw
         case rel => exact ⟨k + 1, by omega, by go_num, hQ4, HEnd⟩
         case measure => simp [intOf]; omega
end Go.Proofs.YtjdgpgfiomnjkaaGreatDoor
