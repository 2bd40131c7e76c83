
/- RepB: walks of repair.Raw, repair.From, RepairOf, replicaIs. -/
import Derived.Test.YtjdgpgfiomnjkaaGreatDoorM13
import Derived.Test.YtjdgpgfiomnjkaaGreatDoorM20
import Derived.Test.YtjdgpgfiomnjkaaGreatDoorM7
namespace Go.Proofs.YtjdgpgfiomnjkaaGreatDoor
open Go.RowKit
set_option linter.unusedVariables false
set_option linter.unusedSimpArgs false
theorem cls_three (w : World) (cs ds es : Array Value) (t u s : TypeId) : ∃ R : World → Prop, Cls w R ∧ In R (((w.alloc (.cells cs t)).alloc (.cells ds u)).alloc (.cells es s)) ∧
  (∀ x, In R x → x.heap[w.heap.size]? = some (.cells cs t (0, 0)) ∧ x.heap[w.heap.size + 1]? = some (.cells ds u (0, 0)) ∧ x.heap[w.heap.size + 2]? = some (.cells es s (0, 0))) := by
 have hb : Below w.heap.size w (((w.alloc (.cells cs t)).alloc (.cells ds u)).alloc (.cells es s)) := (((Below.refl _ _).alloc (Nat.le_refl _) _).alloc (by simp) _).alloc (by simp; omega) _
 refine ⟨_, cls_of w _ (w.heap.size + 3) (by omega) (by simp) hb, Below.refl _ _, fun x hx => ⟨?_, ?_, ?_⟩⟩
 ·rw [Below.block hx _ (by omega), Below.heap_alloc _ _ _ (by simp; omega), Below.heap_alloc _ _ _ (by simp)]; exact heap_alloc_new w _
 ·rw [Below.block hx _ (by omega), Below.heap_alloc _ _ _ (by simp)]; exact heap_new _ _ _ (by simp)
 ·rw [Below.block hx _ (by omega)]; exact heap_new _ _ _ (by simp)
def repairE (n r : Rep) : Int := if n.gen < r.gen then 4 else if rawE n.store r.store ≠ 0 then rawE n.store r.store else withE r.store (rawL n.store r.store)
def repairR (n r : Rep) : Rep := if repairE n r = 0 then ⟨withL r.store (rawL n.store r.store), n.refs, n.gen, 0, psh0⟩ else rep0
def fromE (n r : Rep) : Int := if repCheck n ≠ 0 then repCheck n else if repCheck r ≠ 0 then repCheck r else repairE n r
def fromR (n r : Rep) : Rep := if fromE n r = 0 then repairR n r else rep0
theorem right_links {l : List Obj} (h : checkStore l = 0) : ∀ o ∈ l, ∀ z ∈ o.links, z ≠ 0 := by
 intro o ho z hz
 obtain ⟨k, hk, rfl⟩ := List.getElem_of_mem hz
 obtain ⟨y, hy, _, h2, _⟩ := link_of h ho hk
 obtain ⟨i, hi, rfl⟩ := mem_obj hy
 have h3 := (right_of h).each i hi
 rw [nth_lt hk] at h2
 rw [← h2]
 intro e
 unfold checkObj at h3
 have hw : within (obj l i).id 1 99 = false := by rw [e]; decide
 simp [hw] at h3
theorem with_right {l more : List Obj} (h : withE l more = 0) : ∀ o ∈ withL l more, ∀ z ∈ o.links, z ≠ 0 := by
 have e : withL l more = joined l more more.length := by unfold withL; rw [if_pos h]
 rw [e]
 refine right_links ?_
 unfold withE at h
 by_cases h2 : scan (joinErr l more) more.length = 0
 ·rw [if_pos h2] at h; exact h
 ·rw [if_neg h2] at h; exact absurd h h2
set_option maxRecDepth 100000 in
set_option maxHeartbeats 1000000 in
theorem repairRaw_any (n r : Rep) (sv rv ov uv sv2 rv2 ov2 uv2 : Value) (S S' : Nat → Prop) (w : World) (h : RepIs S w n sv rv ov uv) (h2 : RepIs S' w r sv2 rv2 ov2 uv2) (hn : n.store.length ≤ 40) (hr : checkStore r.store = 0) :
  Calls Tryz.prog 165 #[repV n sv rv ov uv, repV r sv2 rv2 ov2 uv2] w fun e w' => RetRepF w w' e (repairR n r) (repairE n r) := by
 have HE := Lib.hid (show repairE n r = if n.gen < r.gen then 4 else if rawE n.store r.store ≠ 0 then rawE n.store r.store else withE r.store (rawL n.store r.store) from rfl)
 have HR := Lib.hid (show repairR n r = if repairE n r = 0 then ⟨withL r.store (rawL n.store r.store), n.refs, n.gen, 0, psh0⟩ else rep0 from rfl)
 have H := Lib.hid h
 have G := Lib.hid h2
 have hr40 := (checkStore_zero hr).1
 have hrl : (rawL n.store r.store).length ≤ 40 := by unfold rawL; split; exact Nat.le_trans (missL_length _ _) hn; simp
 obtain ⟨sa, sc, rfl⟩ := h.store.vshape
 obtain ⟨⟨ra, rc⟩, rfl⟩ := h.refs.shape
 obtain ⟨oa, oc, rfl⟩ := h.objs.vshape
 obtain ⟨⟨ua, uc⟩, rfl⟩ := h.upds.shape
 obtain ⟨sa2, sc2, rfl⟩ := h2.store.vshape
 obtain ⟨⟨ra2, rc2⟩, rfl⟩ := h2.refs.shape
 obtain ⟨oa2, oc2, rfl⟩ := h2.objs.vshape
 obtain ⟨⟨ua2, uc2⟩, rfl⟩ := h2.upds.shape
 clear h h2
 simp only [repV]
 obtain ⟨Q, hQ, hQ1, HB0⟩ := cls_three w #[.slice sa n.store.length sc, .slice ra n.refs.length rc, .int .i64 n.gen, .int .i64 n.phase, .slice oa n.pend.objects.length oc, .slice ua n.pend.updates.length uc, .bool n.pend.force]
  #[.slice sa2 r.store.length sc2, .slice ra2 r.refs.length rc2, .int .i64 r.gen, .int .i64 r.phase, .slice oa2 r.pend.objects.length oc2, .slice ua2 r.pend.updates.length uc2, .bool r.pend.force] zero7 28 28 28
 have hQn := hQ.next
 have HB := Lib.hid HB0
 have HD := Lib.hid (fun x (hx : In Q x) => diffRaw_any n.store r.store _ _ _ _ x (H.out.store.below (hQ.below _ hx)) (G.out.store.below (hQ.below _ hx)) (checkStore_rising hr) (by omega))
 have HW := Lib.hid (fun x (hx : In Q x) mv S3 (hm : StoreV S3 x mv (rawL n.store r.store)) => withF_any r.store (rawL n.store r.store) _ mv _ S3 x (G.out.store.below (hQ.below _ hx)) hm (checkStore_rising hr) (by omega) (by omega))
 have y0 := fun x (hx : In Q x) => block_cell (j := 0) (HB0 x hx).1 rfl
 have y1 := fun x (hx : In Q x) => block_cell (j := 1) (HB0 x hx).1 rfl
 have y2 := fun x (hx : In Q x) => block_cell (j := 2) (HB0 x hx).1 rfl
 have z0 := fun x (hx : In Q x) => block_cell (j := 0) (HB0 x hx).2.1 rfl
 have z2 := fun x (hx : In Q x) => block_cell (j := 2) (HB0 x hx).2.1 rfl
 have y21 := y2 _ hQ1
 have z21 := z2 _ hQ1
 clear HB0
 have hz7 : (zero7 : Array Value) = #[.slice none 0 0, .slice none 0 0, .int .i64 0, .int .i64 0, .slice none 0 0, .slice none 0 0, .bool false] := rfl
 rw [hz7] at hQ1 HB y21 z21
 clear hz7
 by_cases hg : n.gen < r.gen
 ·have HE2 := Lib.hid (show repairE n r = 4 by rw [HE.out, if_pos hg])
  have HR2 := Lib.hid (show repairR n r = rep0 by rw [HR.out, HE2.out]; rfl)
  have hd : decide (n.gen < r.gen) = true := decide_eq_true hg
  clear HE HR hg HD HW
  obtain ⟨w3, hw3⟩ : ∃ w3 : World, w3 = ((w.alloc (.cells #[.slice sa n.store.length sc, .slice ra n.refs.length rc, .int .i64 n.gen, .int .i64 n.phase, .slice oa n.pend.objects.length oc, .slice ua n.pend.updates.length uc, .bool n.pend.force] 28)).alloc (.cells #[.slice sa2 r.store.length sc2, .slice ra2 r.refs.length rc2, .int .i64 r.gen, .int .i64 r.phase, .slice oa2 r.pend.objects.length oc2, .slice ua2 r.pend.updates.length uc2, .bool r.pend.force] 28)).alloc (.cells #[.slice none 0 0, .slice none 0 0, .int .i64 0, .int .i64 0, .slice none 0 0, .slice none 0 0, .bool false] 28) := ⟨_, rfl⟩
  have hQ13 : In Q w3 := by rw [hw3]; exact hQ1
  have Hw3 := Lib.hid hw3
  clear hw3
  go_enter Tryz.func165, Tryz.ntmps165
  have hblk := (HB.out _ hQ1).2.2
  have g0 := block_cell (j := 0) hblk rfl
  have f0 := block_free (j := 0) hblk
  have g1 := block_cell (j := 1) hblk rfl
  have f1 := block_free (j := 1) hblk
  have g2 := block_cell (j := 2) hblk rfl
  have f2 := block_free (j := 2) hblk
  have g3 := block_cell (j := 3) hblk rfl
  have f3 := block_free (j := 3) hblk
  have g4 := block_cell (j := 4) hblk rfl
  have f4 := block_free (j := 4) hblk
  have g5 := block_cell (j := 5) hblk rfl
  have f5 := block_free (j := 5) hblk
  have g6 := block_cell (j := 6) hblk rfl
  have f6 := block_free (j := 6) hblk
  go_wp2_with fail
  rw [← Hw3.out]
  have k0 := block_cell (j := 0) (HB.out _ hQ13).2.2 rfl
  have k1 := block_cell (j := 1) (HB.out _ hQ13).2.2 rfl
  have k2 := block_cell (j := 2) (HB.out _ hQ13).2.2 rfl
  have k3 := block_cell (j := 3) (HB.out _ hQ13).2.2 rfl
  have k4 := block_cell (j := 4) (HB.out _ hQ13).2.2 rfl
  have k5 := block_cell (j := 5) (HB.out _ hQ13).2.2 rfl
  have k6 := block_cell (j := 6) (HB.out _ hQ13).2.2 rfl
  have hB7 := hQ.below _ hQ13
  clear g0 g1 g2 g3 g4 g5 g6 f0 f1 f2 f3 f4 f5 f6 hblk
  refine bodyPost_ret (v := .tuple #[.agg #[.slice none 0 0, .slice none 0 0, .int .i64 0, .int .i64 0, .slice none 0 0, .slice none 0 0, .bool false], .int .i64 4]) (by simp [results, Tryz.results165, go_sem]; simp [k0, k1, k2, k3, k4, k5, k6] <;> rfl) rfl ?_
  rw [HR2.out, HE2.out]
  exact ⟨_, _, _, _, rfl, rep0_is _ _, hB7⟩
 ·rw [if_neg hg] at HE
  have hd : decide (n.gen < r.gen) = false := decide_eq_false hg
  clear hg
  have y01 := y0 _ hQ1
  have z01 := z0 _ hQ1
  by_cases h1 : rawE n.store r.store = 0
  ·rw [if_neg (by simpa using h1)] at HE
   rw [h1] at HD
   clear h1
   by_cases h3 : withE r.store (rawL n.store r.store) = 0
   ·have HE2 := Lib.hid (show repairE n r = 0 by rw [HE.out, h3])
    have HR2 := Lib.hid (show repairR n r = ⟨withL r.store (rawL n.store r.store), n.refs, n.gen, 0, psh0⟩ by rw [HR.out, if_pos HE2.out])
    have HWl := Lib.hid (with_right h3)
    rw [h3] at HW
    clear h3 HE HR
    go_enter Tryz.func165, Tryz.ntmps165
    go_wp2_with fail
    refine (HD.out _ hQ1).mono ?_
    rintro e w1 ⟨v1, rfl, hv1, hb1⟩
    obtain ⟨a1, c1, rfl⟩ := hv1.vshape
    have hQ2 := hQn _ _ hQ1 hb1
    have Hv1 := Lib.hid hv1
    have z02 := z0 _ hQ2
    clear hv1 hb1 y21 z21 y01 z01
    go_wp2_with fail
    refine (HW.out _ hQ2 _ _ Hv1.out).mono ?_
    rintro e w2 ⟨v2, rfl, hv2, hb2⟩
    obtain ⟨a2, c2, rfl⟩ := hv2.vshape
    have hQ3 := hQn _ _ hQ2 hb2
    have Hv2 := Lib.hid (hv2.weaken (S' := fun b => w.heap.size + 2 < b) (fun b hb => by have := lt_of_block (HB.out _ hQ2).2.2; omega))
    clear hv2 hb2 z02
    have HCl := Lib.hid (fun x (hx : In Q x) => cloneRefs_any n.refs _ _ x (H.out.refs.below (hQ.below _ hx)))
    have h24 := H.out.refs.bytes
    clear y0 z0 z2 HD HW
    obtain ⟨wo, rfl⟩ : ∃ wo : World, wo = w2 := ⟨_, rfl⟩
    go_wp2_with fail
    refine wp_region_held (S := fun x : World => x.cell? ⟨w.heap.size, 1, none⟩ = some (.slice ra n.refs.length rc) ∧ x.cell? ⟨w.heap.size, 2, none⟩ = some (.int .i64 n.gen)) (by kernel_rfl) ?_
    change wpAnyH _ _ _ _ _ _ _ _ (World.drew _)
    have hC0 := hQ.drew _ hQ3
    have Hv3 := Lib.hid (Hv2.out.below (below_drew _ _ (Below.refl _ _)))
    generalize wo.drew = x0 at hC0 Hv3 ⊢
    have hS0 := And.intro (y1 _ hC0) (y2 _ hC0)
    refine wpAnyH_take (i := 4) (v := .pointer (some ⟨w.heap.size, 2, none⟩)) rfl (by kernel_rfl) (by kernel_rfl) (by kernel_rfl) (fun _ _ _ h => h) (Or.inl ⟨by rfl, fun w hSw => ?_⟩) hS0 ?_
    ·go_simp
    simp only [Act.put, List.setIfInBounds_toArray, List.set_cons_zero, List.set_cons_succ]
    refine wpAnyH_take (i := 5) (v := .int .i64 n.gen) rfl (by kernel_rfl) (by kernel_rfl) (by kernel_rfl) (fun _ _ _ h => h) (Or.inl ⟨by rfl, fun w hSw => ?_⟩) hS0 ?_
    ·have yy := hSw.2; go_simp
    simp only [Act.put, List.setIfInBounds_toArray, List.set_cons_zero, List.set_cons_succ]
    refine wpAnyH_take (i := 1) (v := .pointer (some ⟨w.heap.size, 1, none⟩)) rfl (by kernel_rfl) (by kernel_rfl) (by kernel_rfl) (fun _ _ _ h => h) (Or.inl ⟨by rfl, fun w hSw => ?_⟩) hS0 ?_
    ·go_simp
    simp only [Act.put, List.setIfInBounds_toArray, List.set_cons_zero, List.set_cons_succ]
    refine wpAnyH_take (i := 2) (v := .slice ra n.refs.length rc) rfl (by kernel_rfl) (by kernel_rfl) (by kernel_rfl) (fun _ _ _ h => h) (Or.inl ⟨by rfl, fun w hSw => ?_⟩) hS0 ?_
    ·have yy := hSw.1; go_simp
    simp only [Act.put, List.setIfInBounds_toArray, List.set_cons_zero, List.set_cons_succ]
    refine wpAnyH_take (i := 0) (v := .slice a2 (withL r.store (rawL n.store r.store)).length c2) rfl (by kernel_rfl) (by kernel_rfl) (by kernel_rfl) (fun _ _ _ h => h) (Or.inl ⟨by rfl, fun w hSw => ?_⟩) hS0 ?_
    ·go_simp
    simp only [Act.put, List.setIfInBounds_toArray, List.set_cons_zero, List.set_cons_succ]
    refine wpAnyH_all (rs := [3]) (by kernel_rfl) (by simp) (fun j hj => ?_)
    obtain rfl : j = 3 := by simpa using hj
    refine Or.inl ?_
    go_wp2_with fail
    refine (HCl.out _ hC0).mono ?_
    rintro e x1 ⟨v, rfl, hv, hb⟩
    obtain ⟨a3, c3, rfl⟩ := hv.shape
    have hC2 := hQn _ _ hC0 hb
    have Hv4 := Lib.hid (Hv3.out.below hb)
    have Hr4 := Lib.hid ((hv.refs h24).weaken (S' := fun b => x0.heap.size ≤ b) fun _ h => h.1)
    have hx0 := (HB.out _ hC0).2.2
    have hlt0 : w.heap.size + 2 < x0.heap.size := lt_of_block hx0
    clear hv hb Hv3 Hv2
    go_simp
    refine wpAnyH_all (rs := [6]) (by kernel_rfl) (by simp) (fun j hj => ?_)
    obtain rfl : j = 6 := by simpa using hj
    refine Or.inl ?_
    go_simp
    refine wpAnyH_all (rs := [7]) (by kernel_rfl) (by simp) (fun j hj => ?_)
    obtain rfl : j = 7 := by simpa using hj
    refine Or.inl ?_
    have hblk := (HB.out _ hC2).2.2
    have g0 := block_cell (j := 0) hblk rfl
    have f0 := block_free (j := 0) hblk
    have g1 := block_cell (j := 1) hblk rfl
    have f1 := block_free (j := 1) hblk
    have g2 := block_cell (j := 2) hblk rfl
    have f2 := block_free (j := 2) hblk
    have g3 := block_cell (j := 3) hblk rfl
    have f3 := block_free (j := 3) hblk
    have g4 := block_cell (j := 4) hblk rfl
    have f4 := block_free (j := 4) hblk
    have g5 := block_cell (j := 5) hblk rfl
    have f5 := block_free (j := 5) hblk
    have g6 := block_cell (j := 6) hblk rfl
    have f6 := block_free (j := 6) hblk
    have hb7 := set7_is (v0 := .slice a2 (withL r.store (rawL n.store r.store)).length c2) (v1 := .slice a3 n.refs.length c3) (v2 := .int .i64 n.gen) (v3 := .int .i64 0) (v4 := .slice none 0 0) (v5 := .slice none 0 0) (v6 := .bool false) hblk
    have hu7 := set7_upd (w.heap.size + 2) (.slice a2 (withL r.store (rawL n.store r.store)).length c2) (.slice a3 n.refs.length c3) (.int .i64 n.gen) (.int .i64 0) (.slice none 0 0) (.slice none 0 0) (.bool false) x1
    have HS7 := Lib.hid (And.intro (hu7.cell (y1 _ hC2) (by simp)) (hu7.cell (y2 _ hC2) (by simp)))
    have HS1 := Lib.hid (And.intro (y1 _ hC2) (y2 _ hC2))
    have Hb7 := Lib.hid hb7
    have Hu7 := Lib.hid hu7
    clear hb7 hu7 y1 y2
    go_wp2_with fail
    refine ⟨HS1.out, ?_⟩
    change wpAnyH _ _ _ _ _ _ _ _ (set7 (w.heap.size + 2) (.slice a2 (withL r.store (rawL n.store r.store)).length c2) (.slice a3 n.refs.length c3) (.int .i64 n.gen) (.int .i64 0) (.slice none 0 0) (.slice none 0 0) (.bool false) x1)
    have hb7 := Hb7.out
    have hu7 := Hu7.out
    have hS7 := HS7.out
    clear Hb7 Hu7 HS7
    generalize set7 (w.heap.size + 2) (.slice a2 (withL r.store (rawL n.store r.store)).length c2) (.slice a3 n.refs.length c3) (.int .i64 n.gen) (.int .i64 0) (.slice none 0 0) (.slice none 0 0) (.bool false) x1 = w7 at *
    have k0 := block_cell (j := 0) hb7 rfl
    have k1 := block_cell (j := 1) hb7 rfl
    have k2 := block_cell (j := 2) hb7 rfl
    have k3 := block_cell (j := 3) hb7 rfl
    have k4 := block_cell (j := 4) hb7 rfl
    have k5 := block_cell (j := 5) hb7 rfl
    have k6 := block_cell (j := 6) hb7 rfl
    clear g0 g1 g2 g3 g4 g5 g6 f0 f1 f2 f3 f4 f5 f6 hblk hb7
    have hsz := (hQ.below _ hC2).size
    have hB7 : Below w.heap.size w w7 := (hQ.below _ hC2).trans (hu7.below (B := w.heap.size) hsz (fun b hb => by omega))
    refine wpAnyH_all (rs := [8]) (by kernel_rfl) (by simp) (fun j hj => ?_)
    obtain rfl : j = 8 := by simpa using hj
    refine Or.inl ?_
    go_wp2_with fail
    first | refine ⟨hS7, ?_⟩ | skip
    refine wpAnyH_done (by kernel_rfl) ?_ _
    go_wp2_with fail
    refine bodyPost_ret (v := .tuple #[.agg #[.slice a2 (withL r.store (rawL n.store r.store)).length c2, .slice a3 n.refs.length c3, .int .i64 n.gen, .int .i64 0, .slice none 0 0, .slice none 0 0, .bool false], .int .i64 0]) (by simp [results, Tryz.results165, go_sem]; simp [k0, k1, k2, k3, k4, k5, k6] <;> rfl) rfl ?_
    have hrl2 := Hr4.out.upd hu7 (fun b hb e => by omega)
    rw [HR2.out, HE2.out]
    exact ⟨_, _, _, _, rfl, ⟨(Hv4.out.upd' hu7 (fun b hb e => by omega)).weaken fun b hb => by omega, hrl2.weaken fun b hb => by omega, StoreV.nil _ _ _ _ (by omega), MvsV.nil _ _ _ _ (by omega), H.out.gen, by show I64 0; unfold I64; decide⟩, hB7⟩
   ·have HE2 := Lib.hid (show repairE n r = withE r.store (rawL n.store r.store) from HE.out)
    have HR2 := Lib.hid (show repairR n r = rep0 by rw [HR.out, HE2.out, if_neg h3])
    have hq : (withE r.store (rawL n.store r.store) != 0) = true := by simpa using h3
    clear h3 HE HR
    generalize withE r.store (rawL n.store r.store) = we at *
    go_enter Tryz.func165, Tryz.ntmps165
    go_wp2_with fail
    refine (HD.out _ hQ1).mono ?_
    rintro e w1 ⟨v1, rfl, hv1, hb1⟩
    obtain ⟨a1, c1, rfl⟩ := hv1.vshape
    have hQ2 := hQn _ _ hQ1 hb1
    have Hv1 := Lib.hid hv1
    have z02 := z0 _ hQ2
    clear hv1 hb1 y21 z21 y01 z01
    go_wp2_with fail
    refine (HW.out _ hQ2 _ _ Hv1.out).mono ?_
    rintro e w2 ⟨v2, rfl, hv2, hb2⟩
    obtain ⟨a2, c2, rfl⟩ := hv2.vshape
    have hQ3 := hQn _ _ hQ2 hb2
    clear hv2 hb2 z02
    have hblk := (HB.out _ hQ3).2.2
    have g0 := block_cell (j := 0) hblk rfl
    have f0 := block_free (j := 0) hblk
    have g1 := block_cell (j := 1) hblk rfl
    have f1 := block_free (j := 1) hblk
    have g2 := block_cell (j := 2) hblk rfl
    have f2 := block_free (j := 2) hblk
    have g3 := block_cell (j := 3) hblk rfl
    have f3 := block_free (j := 3) hblk
    have g4 := block_cell (j := 4) hblk rfl
    have f4 := block_free (j := 4) hblk
    have g5 := block_cell (j := 5) hblk rfl
    have f5 := block_free (j := 5) hblk
    have g6 := block_cell (j := 6) hblk rfl
    have f6 := block_free (j := 6) hblk
    go_wp2_with fail
    change bodyPost _ _ _ _ _ (set7 (w.heap.size + 2) (.slice none 0 0) (.slice none 0 0) (.int .i64 0) (.int .i64 0) (.slice none 0 0) (.slice none 0 0) (.bool false) w2)
    have hb7 := set7_is (v0 := .slice none 0 0) (v1 := .slice none 0 0) (v2 := .int .i64 0) (v3 := .int .i64 0) (v4 := .slice none 0 0) (v5 := .slice none 0 0) (v6 := .bool false) hblk
    have hu7 := set7_upd (w.heap.size + 2) (.slice none 0 0) (.slice none 0 0) (.int .i64 0) (.int .i64 0) (.slice none 0 0) (.slice none 0 0) (.bool false) w2
    generalize set7 (w.heap.size + 2) (.slice none 0 0) (.slice none 0 0) (.int .i64 0) (.int .i64 0) (.slice none 0 0) (.slice none 0 0) (.bool false) w2 = w7 at *
    have k0 := block_cell (j := 0) hb7 rfl
    have k1 := block_cell (j := 1) hb7 rfl
    have k2 := block_cell (j := 2) hb7 rfl
    have k3 := block_cell (j := 3) hb7 rfl
    have k4 := block_cell (j := 4) hb7 rfl
    have k5 := block_cell (j := 5) hb7 rfl
    have k6 := block_cell (j := 6) hb7 rfl
    clear g0 g1 g2 g3 g4 g5 g6 f0 f1 f2 f3 f4 f5 f6 hblk hb7
    have hsz := (hQ.below _ hQ3).size
    have hB7 : Below w.heap.size w w7 := (hQ.below _ hQ3).trans (hu7.below (B := w.heap.size) hsz (fun b hb => by omega))
    refine bodyPost_ret (v := .tuple #[.agg #[.slice none 0 0, .slice none 0 0, .int .i64 0, .int .i64 0, .slice none 0 0, .slice none 0 0, .bool false], .int .i64 we]) (by simp [results, Tryz.results165, go_sem]; simp [k0, k1, k2, k3, k4, k5, k6] <;> rfl) rfl ?_
    rw [HR2.out, HE2.out]
    exact ⟨_, _, _, _, rfl, rep0_is _ _, hB7⟩
  ·rw [if_pos h1] at HE
   have HE2 := HE
   have HR2 := Lib.hid (show repairR n r = rep0 by rw [HR.out, HE2.out, if_neg h1])
   have hq : (rawE n.store r.store != 0) = true := by simpa using h1
   clear h1 HE HR HW
   generalize rawE n.store r.store = re at *
   go_enter Tryz.func165, Tryz.ntmps165
   go_wp2_with fail
   refine (HD.out _ hQ1).mono ?_
   rintro e w1 ⟨v1, rfl, hv1, hb1⟩
   obtain ⟨a1, c1, rfl⟩ := hv1.vshape
   have hQ2 := hQn _ _ hQ1 hb1
   have Hv1 := Lib.hid hv1
   have z02 := z0 _ hQ2
   clear hv1 hb1 y21 z21 y01 z01
   have hblk := (HB.out _ hQ2).2.2
   have g0 := block_cell (j := 0) hblk rfl
   have f0 := block_free (j := 0) hblk
   have g1 := block_cell (j := 1) hblk rfl
   have f1 := block_free (j := 1) hblk
   have g2 := block_cell (j := 2) hblk rfl
   have f2 := block_free (j := 2) hblk
   have g3 := block_cell (j := 3) hblk rfl
   have f3 := block_free (j := 3) hblk
   have g4 := block_cell (j := 4) hblk rfl
   have f4 := block_free (j := 4) hblk
   have g5 := block_cell (j := 5) hblk rfl
   have f5 := block_free (j := 5) hblk
   have g6 := block_cell (j := 6) hblk rfl
   have f6 := block_free (j := 6) hblk
   go_wp2_with fail
   change bodyPost _ _ _ _ _ (set7 (w.heap.size + 2) (.slice none 0 0) (.slice none 0 0) (.int .i64 0) (.int .i64 0) (.slice none 0 0) (.slice none 0 0) (.bool false) w1)
   have hb7 := set7_is (v0 := .slice none 0 0) (v1 := .slice none 0 0) (v2 := .int .i64 0) (v3 := .int .i64 0) (v4 := .slice none 0 0) (v5 := .slice none 0 0) (v6 := .bool false) hblk
   have hu7 := set7_upd (w.heap.size + 2) (.slice none 0 0) (.slice none 0 0) (.int .i64 0) (.int .i64 0) (.slice none 0 0) (.slice none 0 0) (.bool false) w1
   generalize set7 (w.heap.size + 2) (.slice none 0 0) (.slice none 0 0) (.int .i64 0) (.int .i64 0) (.slice none 0 0) (.slice none 0 0) (.bool false) w1 = w7 at *
   have k0 := block_cell (j := 0) hb7 rfl
   have k1 := block_cell (j := 1) hb7 rfl
   have k2 := block_cell (j := 2) hb7 rfl
   have k3 := block_cell (j := 3) hb7 rfl
   have k4 := block_cell (j := 4) hb7 rfl
   have k5 := block_cell (j := 5) hb7 rfl
   have k6 := block_cell (j := 6) hb7 rfl
   clear g0 g1 g2 g3 g4 g5 g6 f0 f1 f2 f3 f4 f5 f6 hblk hb7
   have hsz := (hQ.below _ hQ2).size
   have hB7 : Below w.heap.size w w7 := (hQ.below _ hQ2).trans (hu7.below (B := w.heap.size) hsz (fun b hb => by omega))
   refine bodyPost_ret (v := .tuple #[.agg #[.slice none 0 0, .slice none 0 0, .int .i64 0, .int .i64 0, .slice none 0 0, .slice none 0 0, .bool false], .int .i64 re]) (by simp [results, Tryz.results165, go_sem]; simp [k0, k1, k2, k3, k4, k5, k6] <;> rfl) rfl ?_
   rw [HR2.out, HE2.out]
   exact ⟨_, _, _, _, rfl, rep0_is _ _, hB7⟩
end Go.Proofs.YtjdgpgfiomnjkaaGreatDoor
