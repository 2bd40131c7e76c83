
/- RepB: walks of repair.Raw, repair.From, RepairOf, replicaIs. -/
import Derived.Test.YtgkbalhkjolnmaaGreatDoorL14
import Derived.Test.YtgkbalhkjolnmaaGreatDoorL22
import Derived.Test.YtgkbalhkjolnmaaGreatDoorL8
import Derived.Test.YtgkbalhkjolnmaaGreatDoorL9
import Derived.Test.YtgkbalhkjolnmaaGreatDoorL4
namespace Go.Proofs.YtgkbalhkjolnmaaGreatDoor
open Go.RowKit
set_option linter.unusedVariables false
set_option linter.unusedSimpArgs false
theorem cls_three (w : World) (cs ds es : Array Value) (t u s : TypeId) : ∃ R : World → Prop, Cls w R ∧ In R (((w.alloc (.cells cs t)).alloc (.cells ds u)).alloc (.cells es s)) ∧
  (∀ x, In R x → x.heap[w.heap.size]? = some (.cells cs t (0, 0)) ∧ x.heap[w.heap.size + 1]? = some (.cells ds u (0, 0)) ∧ x.heap[w.heap.size + 2]? = some (.cells es s (0, 0))) := by
 have hb : Below w.heap.size w (((w.alloc (.cells cs t)).alloc (.cells ds u)).alloc (.cells es s)) := (((Below.refl _ _).alloc (Nat.le_refl _) _).alloc (by simp) _).alloc (by simp; omega) _
 refine ⟨_, cls_of w _ (w.heap.size + 3) (by omega) (by simp) hb, Below.refl _ _, fun x hx => ⟨?_, ?_, ?_⟩⟩
 ·rw [Below.block hx _ (by omega), Below.heap_alloc _ _ _ (by simp; omega), Below.heap_alloc _ _ _ (by simp)]; exact heap_alloc_new w _
 ·rw [Below.block hx _ (by omega), Below.heap_alloc _ _ _ (by simp)]; exact heap_new _ _ _ (by simp)
 ·rw [Below.block hx _ (by omega)]; exact heap_new _ _ _ (by simp)
def repairE (n r : Rep) : Int := if n.gen < r.gen then 4 else if rawE n.store r.store ≠ 0 then rawE n.store r.store else withE r.store (rawL n.store r.store)
def repairR (n r : Rep) : Rep := if repairE n r = 0 then ⟨withL r.store (rawL n.store r.store), n.refs, n.gen, 0, psh0⟩ else rep0
def fromE (n r : Rep) : Int := if repCheck n ≠ 0 then repCheck n else if repCheck r ≠ 0 then repCheck r else repairE n r
def fromR (n r : Rep) : Rep := if fromE n r = 0 then repairR n r else rep0
theorem right_links {l : List Obj} (h : checkStore l = 0) : ∀ o ∈ l, ∀ z ∈ o.links, z ≠ 0 := by
 intro o ho z hz
 obtain ⟨k, hk, rfl⟩ := List.getElem_of_mem hz
 obtain ⟨y, hy, _, h2, _⟩ := link_of h ho hk
 obtain ⟨i, hi, rfl⟩ := mem_obj hy
 have h3 := (right_of h).each i hi
 rw [nth_lt hk] at h2
 rw [← h2]
 intro e
 unfold checkObj at h3
 have hw : within (obj l i).id 1 99 = false := by rw [e]; decide
 simp [hw] at h3
theorem with_right {l more : List Obj} (h : withE l more = 0) : ∀ o ∈ withL l more, ∀ z ∈ o.links, z ≠ 0 := by
 have e : withL l more = joined l more more.length := by unfold withL; rw [if_pos h]
 rw [e]
 refine right_links ?_
 unfold withE at h
 by_cases h2 : scan (joinErr l more) more.length = 0
 ·rw [if_pos h2] at h; exact h
 ·rw [if_neg h2] at h; exact absurd h h2
set_option maxRecDepth 100000 in
set_option maxHeartbeats 1000000 in
theorem repairRaw_any (n r : Rep) (sv rv ov uv sv2 rv2 ov2 uv2 : Value) (S S' : Nat → Prop) (w : World) (h : RepIs S w n sv rv ov uv) (h2 : RepIs S' w r sv2 rv2 ov2 uv2) (hn : n.store.length ≤ 40) (hr : checkStore r.store = 0) :
  Calls Tryz.prog 86 #[repV n sv rv ov uv, repV r sv2 rv2 ov2 uv2] w fun e w' => RetRepF w w' e (repairR n r) (repairE n r) := by
 have HE := Lib.hid (show repairE n r = if n.gen < r.gen then 4 else if rawE n.store r.store ≠ 0 then rawE n.store r.store else withE r.store (rawL n.store r.store) from rfl)
 have HR := Lib.hid (show repairR n r = if repairE n r = 0 then ⟨withL r.store (rawL n.store r.store), n.refs, n.gen, 0, psh0⟩ else rep0 from rfl)
 have H := Lib.hid h
 have G := Lib.hid h2
 have hr40 := (checkStore_zero hr).1
 have hrl : (rawL n.store r.store).length ≤ 40 := by unfold rawL; split; exact Nat.le_trans (missL_length _ _) hn; simp
 obtain ⟨sa, sc, rfl⟩ := h.store.vshape
 obtain ⟨⟨ra, rc⟩, rfl⟩ := h.refs.shape
 obtain ⟨oa, oc, rfl⟩ := h.objs.vshape
 obtain ⟨⟨ua, uc⟩, rfl⟩ := h.upds.shape
 obtain ⟨sa2, sc2, rfl⟩ := h2.store.vshape
 obtain ⟨⟨ra2, rc2⟩, rfl⟩ := h2.refs.shape
 obtain ⟨oa2, oc2, rfl⟩ := h2.objs.vshape
 obtain ⟨⟨ua2, uc2⟩, rfl⟩ := h2.upds.shape
 clear h h2
 simp only [repV]
 obtain ⟨Q, hQ, hQ1, HB0⟩ := cls_three w #[.slice sa n.store.length sc, .slice ra n.refs.length rc, .int .i64 n.gen, .int .i64 n.phase, .slice oa n.pend.objects.length oc, .slice ua n.pend.updates.length uc, .bool n.pend.force]
  #[.slice sa2 r.store.length sc2, .slice ra2 r.refs.length rc2, .int .i64 r.gen, .int .i64 r.phase, .slice oa2 r.pend.objects.length oc2, .slice ua2 r.pend.updates.length uc2, .bool r.pend.force] zero7 43 43 43
 have hQn := hQ.next
 have HB := Lib.hid HB0
 have HD := Lib.hid (fun x (hx : In Q x) => diffRaw_any n.store r.store _ _ _ _ x (H.out.store.below (hQ.below _ hx)) (G.out.store.below (hQ.below _ hx)) (checkStore_rising hr) (by omega))
 have HW := Lib.hid (fun x (hx : In Q x) mv S3 (hm : StoreV S3 x mv (rawL n.store r.store)) => withF_any r.store (rawL n.store r.store) _ mv _ S3 x (G.out.store.below (hQ.below _ hx)) hm (checkStore_rising hr) (by omega) (by omega))
 have y0 := fun x (hx : In Q x) => block_cell (j := 0) (HB0 x hx).1 rfl
 have y1 := fun x (hx : In Q x) => block_cell (j := 1) (HB0 x hx).1 rfl
 have y2 := fun x (hx : In Q x) => block_cell (j := 2) (HB0 x hx).1 rfl
 have z0 := fun x (hx : In Q x) => block_cell (j := 0) (HB0 x hx).2.1 rfl
 have z2 := fun x (hx : In Q x) => block_cell (j := 2) (HB0 x hx).2.1 rfl
 have y21 := y2 _ hQ1
 have z21 := z2 _ hQ1
 clear HB0
 have hz7 : (zero7 : Array Value) = #[.slice none 0 0, .slice none 0 0, .int .i64 0, .int .i64 0, .slice none 0 0, .slice none 0 0, .bool false] := rfl
 rw [hz7] at hQ1 HB y21 z21
 clear hz7
 by_cases hg : n.gen < r.gen
 ·have HE2 := Lib.hid (show repairE n r = 4 by rw [HE.out, if_pos hg])
  have HR2 := Lib.hid (show repairR n r = rep0 by rw [HR.out, HE2.out]; rfl)
  have hd : decide (n.gen < r.gen) = true := decide_eq_true hg
  clear HE HR hg HD HW
  obtain ⟨w3, hw3⟩ : ∃ w3 : World, w3 = ((w.alloc (.cells #[.slice sa n.store.length sc, .slice ra n.refs.length rc, .int .i64 n.gen, .int .i64 n.phase, .slice oa n.pend.objects.length oc, .slice ua n.pend.updates.length uc, .bool n.pend.force] 43)).alloc (.cells #[.slice sa2 r.store.length sc2, .slice ra2 r.refs.length rc2, .int .i64 r.gen, .int .i64 r.phase, .slice oa2 r.pend.objects.length oc2, .slice ua2 r.pend.updates.length uc2, .bool r.pend.force] 43)).alloc (.cells #[.slice none 0 0, .slice none 0 0, .int .i64 0, .int .i64 0, .slice none 0 0, .slice none 0 0, .bool false] 43) := ⟨_, rfl⟩
  have hQ13 : In Q w3 := by rw [hw3]; exact hQ1
  have Hw3 := Lib.hid hw3
  clear hw3
  go_enter Tryz.func86, Tryz.ntmps86
  have hblk := (HB.out _ hQ1).2.2
  have g0 := block_cell (j := 0) hblk rfl
  have f0 := block_free (j := 0) hblk
  have g1 := block_cell (j := 1) hblk rfl
  have f1 := block_free (j := 1) hblk
  have g2 := block_cell (j := 2) hblk rfl
  have f2 := block_free (j := 2) hblk
  have g3 := block_cell (j := 3) hblk rfl
  have f3 := block_free (j := 3) hblk
  have g4 := block_cell (j := 4) hblk rfl
  have f4 := block_free (j := 4) hblk
  have g5 := block_cell (j := 5) hblk rfl
  have f5 := block_free (j := 5) hblk
  have g6 := block_cell (j := 6) hblk rfl
  have f6 := block_free (j := 6) hblk
  go_wp2_with fail
  rw [← Hw3.out]
  have k0 := block_cell (j := 0) (HB.out _ hQ13).2.2 rfl
  have k1 := block_cell (j := 1) (HB.out _ hQ13).2.2 rfl
  have k2 := block_cell (j := 2) (HB.out _ hQ13).2.2 rfl
  have k3 := block_cell (j := 3) (HB.out _ hQ13).2.2 rfl
  have k4 := block_cell (j := 4) (HB.out _ hQ13).2.2 rfl
  have k5 := block_cell (j := 5) (HB.out _ hQ13).2.2 rfl
  have k6 := block_cell (j := 6) (HB.out _ hQ13).2.2 rfl
  have hB7 := hQ.below _ hQ13
  clear g0 g1 g2 g3 g4 g5 g6 f0 f1 f2 f3 f4 f5 f6 hblk
  refine bodyPost_ret (v := .tuple #[.agg #[.slice none 0 0, .slice none 0 0, .int .i64 0, .int .i64 0, .slice none 0 0, .slice none 0 0, .bool false], .int .i64 4]) (by simp [results, Tryz.results86, go_sem]; simp [k0, k1, k2, k3, k4, k5, k6] <;> rfl) rfl ?_
  rw [HR2.out, HE2.out]
  exact ⟨_, _, _, _, rfl, rep0_is _ _, hB7⟩
 ·rw [if_neg hg] at HE
  have hd : decide (n.gen < r.gen) = false := decide_eq_false hg
  clear hg
  have y01 := y0 _ hQ1
  have z01 := z0 _ hQ1
  by_cases h1 : rawE n.store r.store = 0
  ·rw [if_neg (by simpa using h1)] at HE
   rw [h1] at HD
   clear h1
   by_cases h3 : withE r.store (rawL n.store r.store) = 0
   ·have HE2 := Lib.hid (show repairE n r = 0 by rw [HE.out, h3])
    have HR2 := Lib.hid (show repairR n r = ⟨withL r.store (rawL n.store r.store), n.refs, n.gen, 0, psh0⟩ by rw [HR.out, if_pos HE2.out])
    have HWl := Lib.hid (with_right h3)
    rw [h3] at HW
    clear h3 HE HR
    go_enter Tryz.func86, Tryz.ntmps86
    go_wp2_with fail
    refine (HD.out _ hQ1).mono ?_
    rintro e w1 ⟨v1, rfl, hv1, hb1⟩
    obtain ⟨a1, c1, rfl⟩ := hv1.vshape
    have hQ2 := hQn _ _ hQ1 hb1
    have Hv1 := Lib.hid hv1
    have z02 := z0 _ hQ2
    clear hv1 hb1 y21 z21 y01 z01
    go_wp2_with fail
    refine (HW.out _ hQ2 _ _ Hv1.out).mono ?_
    rintro e w2 ⟨v2, rfl, hv2, hb2⟩
    obtain ⟨a2, c2, rfl⟩ := hv2.vshape
    have hQ3 := hQn _ _ hQ2 hb2
    have Hv2 := Lib.hid (hv2.weaken (S' := fun b => w.heap.size + 2 < b) (fun b hb => by have := lt_of_block (HB.out _ hQ2).2.2; omega))
    clear hv2 hb2 z02
    have HCl := Lib.hid (fun x (hx : In Q x) => cloneRefs_any n.refs _ _ x (H.out.refs.below (hQ.below _ hx)))
    have h24 := H.out.refs.bytes
    clear y0 z0 z2 HD HW
    obtain ⟨wo, rfl⟩ : ∃ wo : World, wo = w2 := ⟨_, rfl⟩
    go_wp2_with fail
    refine wp_region_held (S := fun x : World => x.cell? ⟨w.heap.size, 1, none⟩ = some (.slice ra n.refs.length rc) ∧ x.cell? ⟨w.heap.size, 2, none⟩ = some (.int .i64 n.gen)) (by kernel_rfl) ?_
    change wpAnyH _ _ _ _ _ _ _ _ (World.drew _)
    have hC0 := hQ.drew _ hQ3
    have Hv3 := Lib.hid (Hv2.out.below (below_drew _ _ (Below.refl _ _)))
    generalize wo.drew = x0 at hC0 Hv3 ⊢
    have hS0 := And.intro (y1 _ hC0) (y2 _ hC0)
    refine wpAnyH_take (i := 4) (v := .pointer (some ⟨w.heap.size, 2, none⟩)) rfl (by kernel_rfl) (by kernel_rfl) (by kernel_rfl) (fun _ _ _ h => h) (Or.inl ⟨by rfl, fun w hSw => ?_⟩) hS0 ?_
    ·go_simp
    simp only [Act.put, List.setIfInBounds_toArray, List.set_cons_zero, List.set_cons_succ]
    refine wpAnyH_take (i := 5) (v := .int .i64 n.gen) rfl (by kernel_rfl) (by kernel_rfl) (by kernel_rfl) (fun _ _ _ h => h) (Or.inl ⟨by rfl, fun w hSw => ?_⟩) hS0 ?_
    ·have yy := hSw.2; go_simp
    simp only [Act.put, List.setIfInBounds_toArray, List.set_cons_zero, List.set_cons_succ]
    refine wpAnyH_take (i := 1) (v := .pointer (some ⟨w.heap.size, 1, none⟩)) rfl (by kernel_rfl) (by kernel_rfl) (by kernel_rfl) (fun _ _ _ h => h) (Or.inl ⟨by rfl, fun w hSw => ?_⟩) hS0 ?_
    ·go_simp
    simp only [Act.put, List.setIfInBounds_toArray, List.set_cons_zero, List.set_cons_succ]
    refine wpAnyH_take (i := 2) (v := .slice ra n.refs.length rc) rfl (by kernel_rfl) (by kernel_rfl) (by kernel_rfl) (fun _ _ _ h => h) (Or.inl ⟨by rfl, fun w hSw => ?_⟩) hS0 ?_
    ·have yy := hSw.1; go_simp
    simp only [Act.put, List.setIfInBounds_toArray, List.set_cons_zero, List.set_cons_succ]
    refine wpAnyH_take (i := 0) (v := .slice a2 (withL r.store (rawL n.store r.store)).length c2) rfl (by kernel_rfl) (by kernel_rfl) (by kernel_rfl) (fun _ _ _ h => h) (Or.inl ⟨by rfl, fun w hSw => ?_⟩) hS0 ?_
    ·go_simp
    simp only [Act.put, List.setIfInBounds_toArray, List.set_cons_zero, List.set_cons_succ]
    refine wpAnyH_all (rs := [3]) (by kernel_rfl) (by simp) (fun j hj => ?_)
    obtain rfl : j = 3 := by simpa using hj
    refine Or.inl ?_
    go_wp2_with fail
    refine (HCl.out _ hC0).mono ?_
    rintro e x1 ⟨v, rfl, hv, hb⟩
    obtain ⟨a3, c3, rfl⟩ := hv.shape
    have hC2 := hQn _ _ hC0 hb
    have Hv4 := Lib.hid (Hv3.out.below hb)
    have Hr4 := Lib.hid ((hv.refs h24).weaken (S' := fun b => x0.heap.size ≤ b) fun _ h => h.1)
    have hx0 := (HB.out _ hC0).2.2
    have hlt0 : w.heap.size + 2 < x0.heap.size := lt_of_block hx0
    clear hv hb Hv3 Hv2
    go_simp
    refine wpAnyH_all (rs := [6]) (by kernel_rfl) (by simp) (fun j hj => ?_)
    obtain rfl : j = 6 := by simpa using hj
    refine Or.inl ?_
    go_simp
    refine wpAnyH_all (rs := [7]) (by kernel_rfl) (by simp) (fun j hj => ?_)
    obtain rfl : j = 7 := by simpa using hj
    refine Or.inl ?_
    have hblk := (HB.out _ hC2).2.2
    have g0 := block_cell (j := 0) hblk rfl
    have f0 := block_free (j := 0) hblk
    have g1 := block_cell (j := 1) hblk rfl
    have f1 := block_free (j := 1) hblk
    have g2 := block_cell (j := 2) hblk rfl
    have f2 := block_free (j := 2) hblk
    have g3 := block_cell (j := 3) hblk rfl
    have f3 := block_free (j := 3) hblk
    have g4 := block_cell (j := 4) hblk rfl
    have f4 := block_free (j := 4) hblk
    have g5 := block_cell (j := 5) hblk rfl
    have f5 := block_free (j := 5) hblk
    have g6 := block_cell (j := 6) hblk rfl
    have f6 := block_free (j := 6) hblk
    have hb7 := set7_is (v0 := .slice a2 (withL r.store (rawL n.store r.store)).length c2) (v1 := .slice a3 n.refs.length c3) (v2 := .int .i64 n.gen) (v3 := .int .i64 0) (v4 := .slice none 0 0) (v5 := .slice none 0 0) (v6 := .bool false) hblk
    have hu7 := set7_upd (w.heap.size + 2) (.slice a2 (withL r.store (rawL n.store r.store)).length c2) (.slice a3 n.refs.length c3) (.int .i64 n.gen) (.int .i64 0) (.slice none 0 0) (.slice none 0 0) (.bool false) x1
    have HS7 := Lib.hid (And.intro (hu7.cell (y1 _ hC2) (by simp)) (hu7.cell (y2 _ hC2) (by simp)))
    have HS1 := Lib.hid (And.intro (y1 _ hC2) (y2 _ hC2))
    have Hb7 := Lib.hid hb7
    have Hu7 := Lib.hid hu7
    clear hb7 hu7 y1 y2
    go_wp2_with fail
    refine ⟨HS1.out, ?_⟩
    change wpAnyH _ _ _ _ _ _ _ _ (set7 (w.heap.size + 2) (.slice a2 (withL r.store (rawL n.store r.store)).length c2) (.slice a3 n.refs.length c3) (.int .i64 n.gen) (.int .i64 0) (.slice none 0 0) (.slice none 0 0) (.bool false) x1)
    have hb7 := Hb7.out
    have hu7 := Hu7.out
    have hS7 := HS7.out
    clear Hb7 Hu7 HS7
    generalize set7 (w.heap.size + 2) (.slice a2 (withL r.store (rawL n.store r.store)).length c2) (.slice a3 n.refs.length c3) (.int .i64 n.gen) (.int .i64 0) (.slice none 0 0) (.slice none 0 0) (.bool false) x1 = w7 at *
    have k0 := block_cell (j := 0) hb7 rfl
    have k1 := block_cell (j := 1) hb7 rfl
    have k2 := block_cell (j := 2) hb7 rfl
    have k3 := block_cell (j := 3) hb7 rfl
    have k4 := block_cell (j := 4) hb7 rfl
    have k5 := block_cell (j := 5) hb7 rfl
    have k6 := block_cell (j := 6) hb7 rfl
    clear g0 g1 g2 g3 g4 g5 g6 f0 f1 f2 f3 f4 f5 f6 hblk hb7
    have hsz := (hQ.below _ hC2).size
    have hB7 : Below w.heap.size w w7 := (hQ.below _ hC2).trans (hu7.below (B := w.heap.size) hsz (fun b hb => by omega))
    refine wpAnyH_all (rs := [8]) (by kernel_rfl) (by simp) (fun j hj => ?_)
    obtain rfl : j = 8 := by simpa using hj
    refine Or.inl ?_
    go_wp2_with fail
    first | refine ⟨hS7, ?_⟩ | skip
    refine wpAnyH_done (by kernel_rfl) ?_ _
    go_wp2_with fail
    refine bodyPost_ret (v := .tuple #[.agg #[.slice a2 (withL r.store (rawL n.store r.store)).length c2, .slice a3 n.refs.length c3, .int .i64 n.gen, .int .i64 0, .slice none 0 0, .slice none 0 0, .bool false], .int .i64 0]) (by simp [results, Tryz.results86, go_sem]; simp [k0, k1, k2, k3, k4, k5, k6] <;> rfl) rfl ?_
    have hrl2 := Hr4.out.upd hu7 (fun b hb e => by omega)
    rw [HR2.out, HE2.out]
    exact ⟨_, _, _, _, rfl, ⟨(Hv4.out.upd' hu7 (fun b hb e => by omega)).weaken fun b hb => by omega, hrl2.weaken fun b hb => by omega, StoreV.nil _ _ _ _ (by omega), MvsV.nil _ _ _ _ (by omega), H.out.gen, by show I64 0; unfold I64; decide⟩, hB7⟩
   ·have HE2 := Lib.hid (show repairE n r = withE r.store (rawL n.store r.store) from HE.out)
    have HR2 := Lib.hid (show repairR n r = rep0 by rw [HR.out, HE2.out, if_neg h3])
    have hq : (withE r.store (rawL n.store r.store) != 0) = true := by simpa using h3
    clear h3 HE HR
    generalize withE r.store (rawL n.store r.store) = we at *
    go_enter Tryz.func86, Tryz.ntmps86
    go_wp2_with fail
    refine (HD.out _ hQ1).mono ?_
    rintro e w1 ⟨v1, rfl, hv1, hb1⟩
    obtain ⟨a1, c1, rfl⟩ := hv1.vshape
    have hQ2 := hQn _ _ hQ1 hb1
    have Hv1 := Lib.hid hv1
    have z02 := z0 _ hQ2
    clear hv1 hb1 y21 z21 y01 z01
    go_wp2_with fail
    refine (HW.out _ hQ2 _ _ Hv1.out).mono ?_
    rintro e w2 ⟨v2, rfl, hv2, hb2⟩
    obtain ⟨a2, c2, rfl⟩ := hv2.vshape
    have hQ3 := hQn _ _ hQ2 hb2
    clear hv2 hb2 z02
    have hblk := (HB.out _ hQ3).2.2
    have g0 := block_cell (j := 0) hblk rfl
    have f0 := block_free (j := 0) hblk
    have g1 := block_cell (j := 1) hblk rfl
    have f1 := block_free (j := 1) hblk
    have g2 := block_cell (j := 2) hblk rfl
    have f2 := block_free (j := 2) hblk
    have g3 := block_cell (j := 3) hblk rfl
    have f3 := block_free (j := 3) hblk
    have g4 := block_cell (j := 4) hblk rfl
    have f4 := block_free (j := 4) hblk
    have g5 := block_cell (j := 5) hblk rfl
    have f5 := block_free (j := 5) hblk
    have g6 := block_cell (j := 6) hblk rfl
    have f6 := block_free (j := 6) hblk
    go_wp2_with fail
    change bodyPost _ _ _ _ _ (set7 (w.heap.size + 2) (.slice none 0 0) (.slice none 0 0) (.int .i64 0) (.int .i64 0) (.slice none 0 0) (.slice none 0 0) (.bool false) w2)
    have hb7 := set7_is (v0 := .slice none 0 0) (v1 := .slice none 0 0) (v2 := .int .i64 0) (v3 := .int .i64 0) (v4 := .slice none 0 0) (v5 := .slice none 0 0) (v6 := .bool false) hblk
    have hu7 := set7_upd (w.heap.size + 2) (.slice none 0 0) (.slice none 0 0) (.int .i64 0) (.int .i64 0) (.slice none 0 0) (.slice none 0 0) (.bool false) w2
    generalize set7 (w.heap.size + 2) (.slice none 0 0) (.slice none 0 0) (.int .i64 0) (.int .i64 0) (.slice none 0 0) (.slice none 0 0) (.bool false) w2 = w7 at *
    have k0 := block_cell (j := 0) hb7 rfl
    have k1 := block_cell (j := 1) hb7 rfl
    have k2 := block_cell (j := 2) hb7 rfl
    have k3 := block_cell (j := 3) hb7 rfl
    have k4 := block_cell (j := 4) hb7 rfl
    have k5 := block_cell (j := 5) hb7 rfl
    have k6 := block_cell (j := 6) hb7 rfl
    clear g0 g1 g2 g3 g4 g5 g6 f0 f1 f2 f3 f4 f5 f6 hblk hb7
    have hsz := (hQ.below _ hQ3).size
    have hB7 : Below w.heap.size w w7 := (hQ.below _ hQ3).trans (hu7.below (B := w.heap.size) hsz (fun b hb => by omega))
    refine bodyPost_ret (v := .tuple #[.agg #[.slice none 0 0, .slice none 0 0, .int .i64 0, .int .i64 0, .slice none 0 0, .slice none 0 0, .bool false], .int .i64 we]) (by simp [results, Tryz.results86, go_sem]; simp [k0, k1, k2, k3, k4, k5, k6] <;> rfl) rfl ?_
    rw [HR2.out, HE2.out]
    exact ⟨_, _, _, _, rfl, rep0_is _ _, hB7⟩
  ·rw [if_pos h1] at HE
   have HE2 := HE
   have HR2 := Lib.hid (show repairR n r = rep0 by rw [HR.out, HE2.out, if_neg h1])
   have hq : (rawE n.store r.store != 0) = true := by simpa using h1
   clear h1 HE HR HW
   generalize rawE n.store r.store = re at *
   go_enter Tryz.func86, Tryz.ntmps86
   go_wp2_with fail
   refine (HD.out _ hQ1).mono ?_
   rintro e w1 ⟨v1, rfl, hv1, hb1⟩
   obtain ⟨a1, c1, rfl⟩ := hv1.vshape
   have hQ2 := hQn _ _ hQ1 hb1
   have Hv1 := Lib.hid hv1
   have z02 := z0 _ hQ2
   clear hv1 hb1 y21 z21 y01 z01
   have hblk := (HB.out _ hQ2).2.2
   have g0 := block_cell (j := 0) hblk rfl
   have f0 := block_free (j := 0) hblk
   have g1 := block_cell (j := 1) hblk rfl
   have f1 := block_free (j := 1) hblk
   have g2 := block_cell (j := 2) hblk rfl
   have f2 := block_free (j := 2) hblk
   have g3 := block_cell (j := 3) hblk rfl
   have f3 := block_free (j := 3) hblk
   have g4 := block_cell (j := 4) hblk rfl
   have f4 := block_free (j := 4) hblk
   have g5 := block_cell (j := 5) hblk rfl
   have f5 := block_free (j := 5) hblk
   have g6 := block_cell (j := 6) hblk rfl
   have f6 := block_free (j := 6) hblk
   go_wp2_with fail
   change bodyPost _ _ _ _ _ (set7 (w.heap.size + 2) (.slice none 0 0) (.slice none 0 0) (.int .i64 0) (.int .i64 0) (.slice none 0 0) (.slice none 0 0) (.bool false) w1)
   have hb7 := set7_is (v0 := .slice none 0 0) (v1 := .slice none 0 0) (v2 := .int .i64 0) (v3 := .int .i64 0) (v4 := .slice none 0 0) (v5 := .slice none 0 0) (v6 := .bool false) hblk
   have hu7 := set7_upd (w.heap.size + 2) (.slice none 0 0) (.slice none 0 0) (.int .i64 0) (.int .i64 0) (.slice none 0 0) (.slice none 0 0) (.bool false) w1
   generalize set7 (w.heap.size + 2) (.slice none 0 0) (.slice none 0 0) (.int .i64 0) (.int .i64 0) (.slice none 0 0) (.slice none 0 0) (.bool false) w1 = w7 at *
   have k0 := block_cell (j := 0) hb7 rfl
   have k1 := block_cell (j := 1) hb7 rfl
   have k2 := block_cell (j := 2) hb7 rfl
   have k3 := block_cell (j := 3) hb7 rfl
   have k4 := block_cell (j := 4) hb7 rfl
   have k5 := block_cell (j := 5) hb7 rfl
   have k6 := block_cell (j := 6) hb7 rfl
   clear g0 g1 g2 g3 g4 g5 g6 f0 f1 f2 f3 f4 f5 f6 hblk hb7
   have hsz := (hQ.below _ hQ2).size
   have hB7 : Below w.heap.size w w7 := (hQ.below _ hQ2).trans (hu7.below (B := w.heap.size) hsz (fun b hb => by omega))
   refine bodyPost_ret (v := .tuple #[.agg #[.slice none 0 0, .slice none 0 0, .int .i64 0, .int .i64 0, .slice none 0 0, .slice none 0 0, .bool false], .int .i64 re]) (by simp [results, Tryz.results86, go_sem]; simp [k0, k1, k2, k3, k4, k5, k6] <;> rfl) rfl ?_
   rw [HR2.out, HE2.out]
   exact ⟨_, _, _, _, rfl, rep0_is _ _, hB7⟩
end Go.Proofs.YtgkbalhkjolnmaaGreatDoor
namespace Go.Proofs.YtgkbalhkjolnmaaGreatDoor
open Go.RowKit
set_option linter.unusedVariables false
set_option linter.unusedSimpArgs false
set_option maxRecDepth 100000 in
set_option maxHeartbeats 2000000 in
theorem from_any (n r : Rep) (sv rv ov uv sv2 rv2 ov2 uv2 : Value) (S S' : Nat → Prop) (w : World) (h : RepIs S w n sv rv ov uv) (h2 : RepIs S' w r sv2 rv2 ov2 uv2) :
  Calls Tryz.prog 53 #[repV n sv rv ov uv, repV r sv2 rv2 ov2 uv2] w fun e w' => RetRepF w w' e (fromR n r) (fromE n r) := by
 have HE := Lib.hid (show fromE n r = if repCheck n ≠ 0 then repCheck n else if repCheck r ≠ 0 then repCheck r else repairE n r from rfl)
 have HR := Lib.hid (show fromR n r = if fromE n r = 0 then repairR n r else rep0 from rfl)
 have HR0 := Lib.hid (fun (h : repairE n r ≠ 0) => show repairR n r = rep0 by unfold repairR; rw [if_neg h])
 have H := Lib.hid h
 have G := Lib.hid h2
 have Hcn := Lib.hid (fun (h : repCheck n = 0) => repCheck_store h)
 have Hcr := Lib.hid (fun (h : repCheck r = 0) => repCheck_store h)
 obtain ⟨sa, sc, rfl⟩ := h.store.vshape
 obtain ⟨⟨ra, rc⟩, rfl⟩ := h.refs.shape
 obtain ⟨oa, oc, rfl⟩ := h.objs.vshape
 obtain ⟨⟨ua, uc⟩, rfl⟩ := h.upds.shape
 obtain ⟨sa2, sc2, rfl⟩ := h2.store.vshape
 obtain ⟨⟨ra2, rc2⟩, rfl⟩ := h2.refs.shape
 obtain ⟨oa2, oc2, rfl⟩ := h2.objs.vshape
 obtain ⟨⟨ua2, uc2⟩, rfl⟩ := h2.upds.shape
 clear h h2
 simp only [repV]
 obtain ⟨Q, hQ, hQ1, HB0⟩ := cls_allocs w [.cells #[.slice sa n.store.length sc, .slice ra n.refs.length rc, .int .i64 n.gen, .int .i64 n.phase, .slice oa n.pend.objects.length oc, .slice ua n.pend.updates.length uc, .bool n.pend.force] 43, .cells #[.slice sa2 r.store.length sc2, .slice ra2 r.refs.length rc2, .int .i64 r.gen, .int .i64 r.phase, .slice oa2 r.pend.objects.length oc2, .slice ua2 r.pend.updates.length uc2, .bool r.pend.force] 43, .cells #[.slice none 0 0, .slice none 0 0, .int .i64 0, .int .i64 0, .slice none 0 0, .slice none 0 0, .bool false] 43, .cells #[.slice sa n.store.length sc, .slice ra n.refs.length rc, .int .i64 n.gen, .int .i64 n.phase, .slice oa n.pend.objects.length oc, .slice ua n.pend.updates.length uc, .bool n.pend.force, .slice sa2 r.store.length sc2, .slice ra2 r.refs.length rc2, .int .i64 r.gen, .int .i64 r.phase, .slice oa2 r.pend.objects.length oc2, .slice ua2 r.pend.updates.length uc2, .bool r.pend.force] 43]
 simp only [List.foldl] at hQ1
 have hQn := hQ.next
 have hQb := hQ.below
 have HZ := Lib.hid (fun x (hx : In Q x) => show x.heap[w.heap.size + 2]? = some (.cells zero7 43 (0, 0)) from HB0 x hx 2 _ rfl)
 have HC := Lib.hid (fun x (hx : In Q x) => repCheck_any n _ _ _ _ _ x (H.out.below (hQb _ hx)))
 have HD := Lib.hid (fun x (hx : In Q x) => repCheck_any r _ _ _ _ _ x (G.out.below (hQb _ hx)))
 simp only [repV] at HC HD
 have HW := Lib.hid (fun x (hx : In Q x) (h1 : repCheck n = 0) (h2 : repCheck r = 0) => repairRaw_any n r _ _ _ _ _ _ _ _ _ _ x (H.out.below (hQb _ hx)) (G.out.below (hQb _ hx)) ((checkStore_zero (Hcn.out h1)).1) (Hcr.out h2))
 simp only [repV] at HW
 have y0 := fun x (hx : In Q x) => block_cell (j := 0) (HB0 x hx 0 _ rfl) rfl
 have y1 := fun x (hx : In Q x) => block_cell (j := 1) (HB0 x hx 0 _ rfl) rfl
 have y2 := fun x (hx : In Q x) => block_cell (j := 2) (HB0 x hx 0 _ rfl) rfl
 have y3 := fun x (hx : In Q x) => block_cell (j := 3) (HB0 x hx 0 _ rfl) rfl
 have y4 := fun x (hx : In Q x) => block_cell (j := 4) (HB0 x hx 0 _ rfl) rfl
 have y5 := fun x (hx : In Q x) => block_cell (j := 5) (HB0 x hx 0 _ rfl) rfl
 have y6 := fun x (hx : In Q x) => block_cell (j := 6) (HB0 x hx 0 _ rfl) rfl
 have z0 := fun x (hx : In Q x) => block_cell (j := 0) (HB0 x hx 1 _ rfl) rfl
 have z1 := fun x (hx : In Q x) => block_cell (j := 1) (HB0 x hx 1 _ rfl) rfl
 have z2 := fun x (hx : In Q x) => block_cell (j := 2) (HB0 x hx 1 _ rfl) rfl
 have z3 := fun x (hx : In Q x) => block_cell (j := 3) (HB0 x hx 1 _ rfl) rfl
 have z4 := fun x (hx : In Q x) => block_cell (j := 4) (HB0 x hx 1 _ rfl) rfl
 have z5 := fun x (hx : In Q x) => block_cell (j := 5) (HB0 x hx 1 _ rfl) rfl
 have z6 := fun x (hx : In Q x) => block_cell (j := 6) (HB0 x hx 1 _ rfl) rfl
 have b0 := fun x (hx : In Q x) => block_cell (j := 0) (HB0 x hx 3 _ rfl) rfl
 have b1 := fun x (hx : In Q x) => block_cell (j := 1) (HB0 x hx 3 _ rfl) rfl
 have b2 := fun x (hx : In Q x) => block_cell (j := 2) (HB0 x hx 3 _ rfl) rfl
 have b3 := fun x (hx : In Q x) => block_cell (j := 3) (HB0 x hx 3 _ rfl) rfl
 have b4 := fun x (hx : In Q x) => block_cell (j := 4) (HB0 x hx 3 _ rfl) rfl
 have b5 := fun x (hx : In Q x) => block_cell (j := 5) (HB0 x hx 3 _ rfl) rfl
 have b6 := fun x (hx : In Q x) => block_cell (j := 6) (HB0 x hx 3 _ rfl) rfl
 have b7 := fun x (hx : In Q x) => block_cell (j := 7) (HB0 x hx 3 _ rfl) rfl
 have b8 := fun x (hx : In Q x) => block_cell (j := 8) (HB0 x hx 3 _ rfl) rfl
 have b9 := fun x (hx : In Q x) => block_cell (j := 9) (HB0 x hx 3 _ rfl) rfl
 have b10 := fun x (hx : In Q x) => block_cell (j := 10) (HB0 x hx 3 _ rfl) rfl
 have b11 := fun x (hx : In Q x) => block_cell (j := 11) (HB0 x hx 3 _ rfl) rfl
 have b12 := fun x (hx : In Q x) => block_cell (j := 12) (HB0 x hx 3 _ rfl) rfl
 have b13 := fun x (hx : In Q x) => block_cell (j := 13) (HB0 x hx 3 _ rfl) rfl
 simp only [Nat.add_zero] at y0 y1 y2 y3 y4 y5 y6 z0 z1 z2 z3 z4 z5 z6
 clear HB0
 generalize hen : repCheck n = en at *
 generalize her : repCheck r = er at *
 go_enter Tryz.func53, Tryz.ntmps53
 go_wp2_with fail
 go_loopw [13] (fun i wr => In Q wr ∧ (i = .int .i64 0 ∨ (i = .int .i64 1 ∧ en = 0) ∨ (i = .int .i64 2 ∧ en = 0 ∧ er = 0))) (fun i _ => 2 - (intOf i).toNat)
 case atStart => exact ⟨hQ1, .inl rfl⟩
 case round =>
  obtain ⟨hQw, rfl | ⟨rfl, rfl⟩ | ⟨rfl, rfl, rfl⟩⟩ := hrel
  all_goals clear hQ1  
  ·skip
   have x0 := b0 _ hQw
   have x1 := b1 _ hQw
   have x2 := b2 _ hQw
   have x3 := b3 _ hQw
   have x4 := b4 _ hQw
   have x5 := b5 _ hQw
   have x6 := b6 _ hQw
   clear y0 y1 y2 y3 y4 y5 y6 z0 z1 z2 z3 z4 z5 z6 b0 b1 b2 b3 b4 b5 b6 b7 b8 b9 b10 b11 b12 b13 HW
   have hQ2 := hQ.alloc _ (.cells #[.slice sa n.store.length sc, .slice ra n.refs.length rc, .int .i64 n.gen, .int .i64 n.phase, .slice oa n.pend.objects.length oc, .slice ua n.pend.updates.length uc, .bool n.pend.force] 43) hQw
   by_cases hz : en = 0
   ·subst hz
    go_wp2_with fail
    refine (HC.out _ hQ2).mono ?_
    rintro e w1 ⟨rfl, hb1⟩
    have hQ3 := hQn _ _ hQ2 hb1
    go_wp2_with fail
    go_roundw
    case rel => exact ⟨hQ3, .inr (.inl ⟨rfl, by simp⟩)⟩
    case measure => simp [intOf]
   ·have HE2 := Lib.hid (show fromE n r = en by rw [HE.out, if_pos hz])
    have HR2 := Lib.hid (show fromR n r = rep0 by rw [HR.out, HE2.out, if_neg hz])
    have hq : (en != 0) = true := by simpa using hz
    clear hz
    go_wp2_with fail
    refine (HC.out _ hQ2).mono ?_
    rintro e w1 ⟨rfl, hb1⟩
    have hQ3 := hQn _ _ hQ2 hb1
    clear x0 x1 x2 x3 x4 x5 x6
    have hblk := HZ.out _ hQ3
    simp only [zero7] at hblk
    have g0 := block_cell (j := 0) hblk rfl
    have g1 := block_cell (j := 1) hblk rfl
    have g2 := block_cell (j := 2) hblk rfl
    have g3 := block_cell (j := 3) hblk rfl
    have g4 := block_cell (j := 4) hblk rfl
    have g5 := block_cell (j := 5) hblk rfl
    have g6 := block_cell (j := 6) hblk rfl
    have f0 := block_free (j := 0) hblk
    have f1 := block_free (j := 1) hblk
    have f2 := block_free (j := 2) hblk
    have f3 := block_free (j := 3) hblk
    have f4 := block_free (j := 4) hblk
    have f5 := block_free (j := 5) hblk
    have f6 := block_free (j := 6) hblk
    go_wp2_with fail
    change bodyPost _ _ _ _ _ (set7 (w.heap.size + 2) (.slice none 0 0) (.slice none 0 0) (.int .i64 0) (.int .i64 0) (.slice none 0 0) (.slice none 0 0) (.bool false) w1)
    have hb7 := set7_is (v0 := .slice none 0 0) (v1 := .slice none 0 0) (v2 := .int .i64 0) (v3 := .int .i64 0) (v4 := .slice none 0 0) (v5 := .slice none 0 0) (v6 := .bool false) hblk
    have hu7 := set7_upd (w.heap.size + 2) (.slice none 0 0) (.slice none 0 0) (.int .i64 0) (.int .i64 0) (.slice none 0 0) (.slice none 0 0) (.bool false) w1
    generalize set7 (w.heap.size + 2) (.slice none 0 0) (.slice none 0 0) (.int .i64 0) (.int .i64 0) (.slice none 0 0) (.slice none 0 0) (.bool false) w1 = w7 at *
    have k0 := block_cell (j := 0) hb7 rfl
    have k1 := block_cell (j := 1) hb7 rfl
    have k2 := block_cell (j := 2) hb7 rfl
    have k3 := block_cell (j := 3) hb7 rfl
    have k4 := block_cell (j := 4) hb7 rfl
    have k5 := block_cell (j := 5) hb7 rfl
    have k6 := block_cell (j := 6) hb7 rfl
    clear g0 g1 g2 g3 g4 g5 g6 f0 f1 f2 f3 f4 f5 f6 hblk hb7
    have hsz := (hQb _ hQ3).size
    have hB7 : Below w.heap.size w w7 := (hQb _ hQ3).trans (hu7.below (B := w.heap.size) hsz (fun b hb => by omega))
    refine bodyPost_ret (v := .tuple #[.agg #[.slice none 0 0, .slice none 0 0, .int .i64 0, .int .i64 0, .slice none 0 0, .slice none 0 0, .bool false], .int .i64 en]) (by simp [results, Tryz.results53, go_sem]; simp [k0, k1, k2, k3, k4, k5, k6] <;> rfl) rfl ?_
    rw [HR2.out, HE2.out]
    exact ⟨_, _, _, _, rfl, rep0_is _ _, hB7⟩
  ·skip
   have x0 := b7 _ hQw
   have x1 := b8 _ hQw
   have x2 := b9 _ hQw
   have x3 := b10 _ hQw
   have x4 := b11 _ hQw
   have x5 := b12 _ hQw
   have x6 := b13 _ hQw
   clear y0 y1 y2 y3 y4 y5 y6 z0 z1 z2 z3 z4 z5 z6 b0 b1 b2 b3 b4 b5 b6 b7 b8 b9 b10 b11 b12 b13 HW
   have hQ2 := hQ.alloc _ (.cells #[.slice sa2 r.store.length sc2, .slice ra2 r.refs.length rc2, .int .i64 r.gen, .int .i64 r.phase, .slice oa2 r.pend.objects.length oc2, .slice ua2 r.pend.updates.length uc2, .bool r.pend.force] 43) hQw
   by_cases hz : er = 0
   ·subst hz
    go_wp2_with fail
    refine (HD.out _ hQ2).mono ?_
    rintro e w1 ⟨rfl, hb1⟩
    have hQ3 := hQn _ _ hQ2 hb1
    go_wp2_with fail
    go_roundw
    case rel => exact ⟨hQ3, .inr (.inr ⟨rfl, by simp⟩)⟩
    case measure => simp [intOf]
   ·have HE2 := Lib.hid (show fromE n r = er by rw [HE.out, if_neg (by simp), if_pos hz])
    have HR2 := Lib.hid (show fromR n r = rep0 by rw [HR.out, HE2.out, if_neg hz])
    have hq : (er != 0) = true := by simpa using hz
    clear hz
    go_wp2_with fail
    refine (HD.out _ hQ2).mono ?_
    rintro e w1 ⟨rfl, hb1⟩
    have hQ3 := hQn _ _ hQ2 hb1
    clear x0 x1 x2 x3 x4 x5 x6
    have hblk := HZ.out _ hQ3
    simp only [zero7] at hblk
    have g0 := block_cell (j := 0) hblk rfl
    have g1 := block_cell (j := 1) hblk rfl
    have g2 := block_cell (j := 2) hblk rfl
    have g3 := block_cell (j := 3) hblk rfl
    have g4 := block_cell (j := 4) hblk rfl
    have g5 := block_cell (j := 5) hblk rfl
    have g6 := block_cell (j := 6) hblk rfl
    have f0 := block_free (j := 0) hblk
    have f1 := block_free (j := 1) hblk
    have f2 := block_free (j := 2) hblk
    have f3 := block_free (j := 3) hblk
    have f4 := block_free (j := 4) hblk
    have f5 := block_free (j := 5) hblk
    have f6 := block_free (j := 6) hblk
    go_wp2_with fail
    change bodyPost _ _ _ _ _ (set7 (w.heap.size + 2) (.slice none 0 0) (.slice none 0 0) (.int .i64 0) (.int .i64 0) (.slice none 0 0) (.slice none 0 0) (.bool false) w1)
    have hb7 := set7_is (v0 := .slice none 0 0) (v1 := .slice none 0 0) (v2 := .int .i64 0) (v3 := .int .i64 0) (v4 := .slice none 0 0) (v5 := .slice none 0 0) (v6 := .bool false) hblk
    have hu7 := set7_upd (w.heap.size + 2) (.slice none 0 0) (.slice none 0 0) (.int .i64 0) (.int .i64 0) (.slice none 0 0) (.slice none 0 0) (.bool false) w1
    generalize set7 (w.heap.size + 2) (.slice none 0 0) (.slice none 0 0) (.int .i64 0) (.int .i64 0) (.slice none 0 0) (.slice none 0 0) (.bool false) w1 = w7 at *
    have k0 := block_cell (j := 0) hb7 rfl
    have k1 := block_cell (j := 1) hb7 rfl
    have k2 := block_cell (j := 2) hb7 rfl
    have k3 := block_cell (j := 3) hb7 rfl
    have k4 := block_cell (j := 4) hb7 rfl
    have k5 := block_cell (j := 5) hb7 rfl
    have k6 := block_cell (j := 6) hb7 rfl
    clear g0 g1 g2 g3 g4 g5 g6 f0 f1 f2 f3 f4 f5 f6 hblk hb7
    have hsz := (hQb _ hQ3).size
    have hB7 : Below w.heap.size w w7 := (hQb _ hQ3).trans (hu7.below (B := w.heap.size) hsz (fun b hb => by omega))
    refine bodyPost_ret (v := .tuple #[.agg #[.slice none 0 0, .slice none 0 0, .int .i64 0, .int .i64 0, .slice none 0 0, .slice none 0 0, .bool false], .int .i64 er]) (by simp [results, Tryz.results53, go_sem]; simp [k0, k1, k2, k3, k4, k5, k6] <;> rfl) rfl ?_
    rw [HR2.out, HE2.out]
    exact ⟨_, _, _, _, rfl, rep0_is _ _, hB7⟩
  ·skip
   rw [if_neg (by simp), if_neg (by simp)] at HE
   have x0 := y0 _ hQw
   have u0 := z0 _ hQw
   have x1 := y1 _ hQw
   have u1 := z1 _ hQw
   have x2 := y2 _ hQw
   have u2 := z2 _ hQw
   have x3 := y3 _ hQw
   have u3 := z3 _ hQw
   have x4 := y4 _ hQw
   have u4 := z4 _ hQw
   have x5 := y5 _ hQw
   have u5 := z5 _ hQw
   have x6 := y6 _ hQw
   have u6 := z6 _ hQw
   clear y0 y1 y2 y3 y4 y5 y6 z0 z1 z2 z3 z4 z5 z6 b0 b1 b2 b3 b4 b5 b6 b7 b8 b9 b10 b11 b12 b13
   go_wp2_with fail
   refine (HW.out _ hQw (by simp) (by simp)).mono ?_
   rintro e w1 ⟨sv3, rv3, ov3, uv3, rfl, hv, hb1⟩
   have hQ2 := hQn _ _ hQw hb1
   obtain ⟨sa3, sc3, rfl⟩ := hv.store.vshape
   obtain ⟨⟨ra3, rc3⟩, rfl⟩ := hv.refs.shape
   obtain ⟨oa3, oc3, rfl⟩ := hv.objs.vshape
   obtain ⟨⟨ua3, uc3⟩, rfl⟩ := hv.upds.shape
   have Hv := Lib.hid (hv.weaken (S' := fun b => w.heap.size + 2 < b) (fun b hb => by have := lt_of_block (HZ.out _ hQw); omega))
   clear hv
   have HR2 := Lib.hid (show fromR n r = repairR n r by rw [HR.out, HE.out]; by_cases h : repairE n r = 0; rw [if_pos h]; rw [if_neg h, HR0.out h])
   generalize repairR n r = rr at *
   generalize repairE n r = re at *
   simp only [repV]
   have hblk := HZ.out _ hQ2
   simp only [zero7] at hblk
   have g0 := block_cell (j := 0) hblk rfl
   have g1 := block_cell (j := 1) hblk rfl
   have g2 := block_cell (j := 2) hblk rfl
   have g3 := block_cell (j := 3) hblk rfl
   have g4 := block_cell (j := 4) hblk rfl
   have g5 := block_cell (j := 5) hblk rfl
   have g6 := block_cell (j := 6) hblk rfl
   have f0 := block_free (j := 0) hblk
   have f1 := block_free (j := 1) hblk
   have f2 := block_free (j := 2) hblk
   have f3 := block_free (j := 3) hblk
   have f4 := block_free (j := 4) hblk
   have f5 := block_free (j := 5) hblk
   have f6 := block_free (j := 6) hblk
   clear x0 x1 x2 x3 x4 x5 x6 u0 u1 u2 u3 u4 u5 u6
   go_wp2_with fail
   change bodyPost _ _ _ _ _ (set7 (w.heap.size + 2) (.slice sa3 rr.store.length sc3) (.slice ra3 rr.refs.length rc3) (.int .i64 rr.gen) (.int .i64 rr.phase) (.slice oa3 rr.pend.objects.length oc3) (.slice ua3 rr.pend.updates.length uc3) (.bool rr.pend.force) w1)
   have hb7 := set7_is (v0 := .slice sa3 rr.store.length sc3) (v1 := .slice ra3 rr.refs.length rc3) (v2 := .int .i64 rr.gen) (v3 := .int .i64 rr.phase) (v4 := .slice oa3 rr.pend.objects.length oc3) (v5 := .slice ua3 rr.pend.updates.length uc3) (v6 := .bool rr.pend.force) hblk
   have hu7 := set7_upd (w.heap.size + 2) (.slice sa3 rr.store.length sc3) (.slice ra3 rr.refs.length rc3) (.int .i64 rr.gen) (.int .i64 rr.phase) (.slice oa3 rr.pend.objects.length oc3) (.slice ua3 rr.pend.updates.length uc3) (.bool rr.pend.force) w1
   generalize set7 (w.heap.size + 2) (.slice sa3 rr.store.length sc3) (.slice ra3 rr.refs.length rc3) (.int .i64 rr.gen) (.int .i64 rr.phase) (.slice oa3 rr.pend.objects.length oc3) (.slice ua3 rr.pend.updates.length uc3) (.bool rr.pend.force) w1 = w7 at *
   have k0 := block_cell (j := 0) hb7 rfl
   have k1 := block_cell (j := 1) hb7 rfl
   have k2 := block_cell (j := 2) hb7 rfl
   have k3 := block_cell (j := 3) hb7 rfl
   have k4 := block_cell (j := 4) hb7 rfl
   have k5 := block_cell (j := 5) hb7 rfl
   have k6 := block_cell (j := 6) hb7 rfl
   clear g0 g1 g2 g3 g4 g5 g6 f0 f1 f2 f3 f4 f5 f6 hblk hb7
   have hsz := (hQb _ hQ2).size
   have hB7 : Below w.heap.size w w7 := (hQb _ hQ2).trans (hu7.below (B := w.heap.size) hsz (fun b hb => by omega))
   have Hv7 := (Hv.out.upd hu7 (fun b hb e => by omega)).weaken (S' := fun b => w.heap.size ≤ b) (fun b hb => by omega)
   refine bodyPost_ret (v := .tuple #[.agg #[.slice sa3 rr.store.length sc3, .slice ra3 rr.refs.length rc3, .int .i64 rr.gen, .int .i64 rr.phase, .slice oa3 rr.pend.objects.length oc3, .slice ua3 rr.pend.updates.length uc3, .bool rr.pend.force], .int .i64 re]) (by simp [results, Tryz.results53, go_sem]; simp [k0, k1, k2, k3, k4, k5, k6] <;> rfl) rfl ?_
   rw [HR2.out, HE.out]
   exact ⟨_, _, _, _, rfl, Hv7, hB7⟩
end Go.Proofs.YtgkbalhkjolnmaaGreatDoor
namespace Go.Proofs.YtgkbalhkjolnmaaGreatDoor
open Go.RowKit
set_option linter.unusedVariables false
set_option linter.unusedSimpArgs false
theorem raw_sub {l a : List Obj} (hs : ∀ x ∈ l, x ∈ a) (ha : Rising a) : rawE l a = 0 ∧ rawL l a = [] := by
 have h0 : rawE l a = 0 := rawE_zero.2 fun x hx _ => (ha.isAt_mem (hs x hx)).2
 refine ⟨h0, ?_⟩
 unfold rawL
 rw [if_pos h0]
 unfold missL
 rw [List.filter_eq_nil_iff]
 intro x hx
 unfold lacks
 rw [(ha.isAt_mem (hs x hx)).1]; simp
theorem with_nil {l : List Obj} (h : checkStore l = 0) : withE l [] = 0 ∧ withL l [] = l := by
 have h0 : withE l [] = 0 := by unfold withE; rw [if_pos (by rfl)]; exact h
 exact ⟨h0, by unfold withL; rw [if_pos h0]; rfl⟩
theorem with_ok {l more : List Obj} (h : withE l more = 0) : checkStore (withL l more) = 0 ∧ ∀ x, x ∈ withL l more ↔ x ∈ l ∨ x ∈ more := by
 have e : withL l more = joined l more more.length := by unfold withL; rw [if_pos h]
 unfold withE at h
 by_cases h2 : scan (joinErr l more) more.length = 0
 ·rw [if_pos h2] at h
  rw [e]
  exact ⟨h, fun x => by rw [joined_mem (Nat.le_refl _) h2 x, List.take_length]⟩
 ·rw [if_neg h2] at h; exact absurd h h2
structure Mended (n r a : Rep) : Prop where
 newer : repCheck n = 0
 older : repCheck r = 0
 refs : a.refs = n.refs
 gen : a.gen = n.gen
 phase : a.phase = 0
 pend : a.pend = psh0
 store : checkStore a.store = 0
 mem : ∀ x, x ∈ a.store ↔ x ∈ r.store ∨ x ∈ n.store
theorem mended {n r : Rep} (h : fromE n r = 0) : Mended n r (fromR n r) := by
 have hR : fromR n r = repairR n r := by unfold fromR; rw [if_pos h]
 unfold fromE at h
 split at h
 ·rename_i h1; exact absurd h h1
 ·rename_i h1
  split at h
  ·rename_i h2; exact absurd h h2
  ·rename_i h2
   have hn : repCheck n = 0 := by simpa using h1
   have hr : repCheck r = 0 := by simpa using h2
   have hR2 : repairR n r = ⟨withL r.store (rawL n.store r.store), n.refs, n.gen, 0, psh0⟩ := by unfold repairR; rw [if_pos h]
   unfold repairE at h
   split at h
   ·cases h
   ·split at h
    ·rename_i h3; exact absurd h h3
    ·rename_i h3
     have h4 : rawE n.store r.store = 0 := by simpa using h3
     obtain ⟨hc, hm⟩ := with_ok h
     rw [hR, hR2]
     refine ⟨hn, hr, rfl, rfl, rfl, rfl, hc, fun x => ?_⟩
     rw [hm]
     have hl : rawL n.store r.store = missL n.store r.store := by unfold rawL; rw [if_pos h4]
     rw [hl]
     constructor
     ·rintro (hx | hx)
      ·exact .inl hx
      ·exact .inr (mem_miss.1 hx).1
     ·rintro (hx | hx)
      ·exact .inl hx
      ·cases hi : isAt r.store x.id
       ·exact .inr (mem_miss.2 ⟨hx, hi⟩)
       ·left
        have := rawE_zero.1 h4 x hx hi
        rw [← this]
        exact obj_mem (isAt_spec hi).1
theorem kind_sub {l a : List Obj} (hs : ∀ x ∈ l, x ∈ a) (ha : Rising a) {id : Int} {k : Int} (h : kindOf l id = k) (hk : k ≠ 0) : kindOf a id = k := by
 obtain ⟨j, hj, he, hkj⟩ := kind_place (by rw [h]; exact hk)
 obtain ⟨i, hi, e⟩ := mem_obj (hs _ (obj_mem hj))
 have := ha.kind_self hi
 rw [e, he] at this
 rw [this, ← hkj, h]
theorem refs_sub {l : List Rf} {s a : List Obj} (hs : ∀ x ∈ s, x ∈ a) (ha : checkStore a = 0) (h : checkRefs l s = 0) : checkRefs l a = 0 := by
 have hs0 := (checkRefs_zero.1 h).1
 have h1 : rightErr l s = 0 := by unfold checkRefs at h; rw [if_neg (by simpa using hs0)] at h; exact h
 have e : ∀ i, i < l.length → refErr l s i = 0 → refErr l a i = 0 := fun i hi h0 => by
  rw [refErr_zero] at h0 ⊢
  exact ⟨h0.1, h0.2.1, kind_sub hs (checkStore_rising ha) h0.2.2 (by decide)⟩
 unfold checkRefs
 rw [if_neg (by simpa using ha)]
 unfold rightErr at h1 ⊢
 split at h1
 ·cases h1
 ·rename_i h8
  rw [if_neg h8]
  split at h1
  ·rename_i h2; exact absurd h1 h2
  ·rename_i h2
   have h3 : scan (refErr l s) l.length = 0 := by simpa using h2
   have h4 : scan (refErr l a) l.length = 0 := scan_of_zero fun i hi => e i hi (scan_zero h3 i hi)
   rw [if_neg (by simpa using h4)]; exact h1
theorem repCheck_of {r : Rep} (h : repCheck r = 0) : checkRefs r.refs r.store = 0 ∧ within r.gen 0 999 = true := by
 unfold repCheck at h
 split at h
 ·rename_i h1; exact absurd h h1
 ·rename_i h1
  refine ⟨by simpa using h1, ?_⟩
  split at h
  ·cases h
  ·rename_i h2; simpa using h2
theorem Mended.right {n r a : Rep} (h : Mended n r a) : repCheck a = 0 := by
 obtain ⟨h1, h2⟩ := repCheck_of h.newer
 unfold repCheck
 have hc : checkRefs a.refs a.store = 0 := by rw [h.refs]; exact refs_sub (fun x hx => (h.mem x).2 (.inr hx)) h.store h1
 rw [if_neg (by simpa using hc), h.gen, h2, h.phase, h.pend]
 simp [within, emptyB, psh0]
theorem Mended.again {n r a : Rep} (h : Mended n r a) : fromE n a = 0 ∧ fromR n a = a := by
 have hs : ∀ x ∈ n.store, x ∈ a.store := fun x hx => (h.mem x).2 (.inr hx)
 obtain ⟨e1, e2⟩ := raw_sub hs (checkStore_rising h.store)
 obtain ⟨e3, e4⟩ := with_nil h.store
 have hE : repairE n a = 0 := by
  unfold repairE
  rw [if_neg (by rw [h.gen]; omega), if_neg (by simpa using e1), e2]; exact e3
 have hR : repairR n a = a := by
  unfold repairR
  rw [if_pos hE, e2, e4, ← h.refs, ← h.gen, ← h.phase, ← h.pend]
 have h0 : fromE n a = 0 := by unfold fromE; rw [if_neg (by simpa using h.newer), if_neg (by simpa using h.right)]; exact hE
 exact ⟨h0, by unfold fromR; rw [if_pos h0]; exact hR⟩
theorem Mended.diff {n r a : Rep} (h : Mended n r a) {s : List Obj} (hc : checkStore s = 0) (hs : ∀ x ∈ s, x ∈ a.store) : diffE s a.store = 0 ∧ diffL s a.store = [] := by
 obtain ⟨e1, e2⟩ := raw_sub hs (checkStore_rising h.store)
 have h0 : diffE s a.store = 0 := by unfold diffE; rw [if_neg (by simpa using hc), if_neg (by simpa using h.store)]; exact e1
 refine ⟨h0, ?_⟩
 unfold diffL; rw [if_pos h0]
 unfold rawL at e2; rw [if_pos e1] at e2; exact e2
end Go.Proofs.YtgkbalhkjolnmaaGreatDoor
