
/- RestStores: walk of the law. -/
import Derived.Test.YtjdgpgfiomnjkaaGreatDoorQ22
import Derived.Test.YtjdgpgfiomnjkaaGreatDoorQ29
import Derived.Test.YtjdgpgfiomnjkaaGreatDoorQ30
import Derived.Test.YtjdgpgfiomnjkaaGreatDoorQ26
namespace Go.Proofs.YtjdgpgfiomnjkaaGreatDoor
open Go.RowKit
set_option linter.unusedVariables false
set_option linter.unusedSimpArgs false
set_option linter.unusedSectionVars false
variable [Ghost]
@[reducible] def restL (iv pv nv p3 p4 v63 v64 v65 v66 v67 v68 v7 v8 v9 : Value) : Act := ⟨#[iv, pv, nv, p3, p4, undef, .bool false, v7, v8, v9, undef, undef, undef, undef, undef, undef, undef, undef, undef, undef, undef, undef, undef, undef, undef, undef, undef, undef, undef, undef, undef, undef, undef, undef, undef, undef, undef, .bool true, .bool false, .bool false, .bool true, .bool false, .bool false, .bool false, .bool true, .bool false, .bool false, .bool false, .bool true, .bool false, .bool false, .bool false, .bool true, .bool false, .bool false, .bool false, .bool true, .bool false, .bool false, .bool false, .bool true, .bool false, .bool false, v63, v64, v65, v66, v67, v68, undef, undef, undef, undef, undef, undef, undef, undef, undef, undef, undef, undef, undef, undef, undef, undef, undef, undef, undef, undef, undef, undef, undef, undef, undef, undef, undef, undef, undef, undef, undef, undef, undef, undef, undef, undef, undef, undef, undef, undef, undef, undef, undef, undef, undef, undef, undef, undef, undef, undef, undef, undef, undef, undef, undef, undef, undef, undef, undef, undef, undef, undef, undef, undef, undef, undef, undef, undef, undef, undef, undef, undef, undef, undef, undef, undef, undef, undef, undef, undef, undef, undef, undef, undef, undef, undef, undef, undef, undef, undef, undef, undef, undef, undef, undef, undef, undef, undef, undef, undef, undef, undef, undef, undef, undef, undef, undef, undef, undef, undef, undef, undef, undef, undef, undef, undef, undef, undef, undef, undef, undef, undef, undef, undef, undef, undef, undef, undef, undef, undef, undef, undef, undef, undef, undef, undef, undef, undef, undef, undef], []⟩
def RJ (w1 : World) (r : Rep) (p : Psh) (on : List Obj) (iv pv nv p3 p4 : Value) (f : Nat → Bool) (a : Act) (x : World) : Prop :=
 ∃ v63 v64 v65 v66 v67 v68 v7 v8 v9 S, a = restL iv pv nv p3 p4 v63 v64 v65 v66 v67 v68 v7 v8 v9 ∧ R3 w1 r p on iv pv nv f S x v63 v64 v65 v66 v67 v68 v7 v8 v9
theorem RJ.mk {w1 : World} {r : Rep} {p : Psh} {on : List Obj} {iv pv nv p3 p4 : Value} {f : Nat → Bool} {S : Nat → Prop} {x : World} {v63 v64 v65 v66 v67 v68 v7 v8 v9 : Value} (h : R3 w1 r p on iv pv nv f S x v63 v64 v65 v66 v67 v68 v7 v8 v9) :
  RJ w1 r p on iv pv nv p3 p4 f (restL iv pv nv p3 p4 v63 v64 v65 v66 v67 v68 v7 v8 v9) x := ⟨_, _, _, _, _, _, _, _, _, _, rfl, h⟩
set_option maxRecDepth 100000 in
set_option maxHeartbeats 16000000 in
theorem restStores_any (r : Rep) (p : Psh) (on : List Obj) (sv rv ov uv pov puv nv : Value) (S S1 S2 : Nat → Prop) (w : World) (h : RepIs S w r sv rv ov uv) (hou : StoreV S1 w pov p.objects ∧ MvsV S1 w puv p.updates) (hn : StoreV S2 w nv on) (ht : Tab w) (hg : ∀ b, Ghost.frz b → b < w.heap.size) :
  Calls Tryz.prog 3 #[repV r sv rv ov uv, pshV p pov puv, nv] w fun e w' => e = .returned (.bool true) ∧ Below w.heap.size w w' := by
 obtain ⟨ho, hu⟩ := hou
 obtain ⟨sa, sc, rfl⟩ := h.store.vshape
 obtain ⟨⟨ra, rc⟩, rfl⟩ := h.refs.shape
 obtain ⟨oa, oc, rfl⟩ := h.objs.vshape
 obtain ⟨⟨ua, uc⟩, rfl⟩ := h.upds.shape
 obtain ⟨pa, pc, rfl⟩ := ho.vshape
 obtain ⟨⟨qa, qc⟩, rfl⟩ := hu.shape
 obtain ⟨na, nc, rfl⟩ := hn.vshape
 have H := Lib.hid h
 have HO := Lib.hid ho
 have HU := Lib.hid hu
 have HN := Lib.hid hn
 have HT := Lib.hid ht
 have HG := Lib.hid hg
 clear h ho hu hn ht hg
 simp only [repV, pshV]
 have hbw : Below w.heap.size w ((w.alloc (.cells #[.slice sa r.store.length sc, .slice ra r.refs.length rc, .int .i64 r.gen, .int .i64 r.phase, .slice oa r.pend.objects.length oc, .slice ua r.pend.updates.length uc, .bool r.pend.force] 28)).alloc (.cells #[.slice pa p.objects.length pc, .slice qa p.updates.length qc, .bool p.force] 26)) := ((Below.refl _ _).alloc (Nat.le_refl _) _).alloc (by simp) _
 have HX1 := Lib.hid (show ((w.alloc (.cells #[.slice sa r.store.length sc, .slice ra r.refs.length rc, .int .i64 r.gen, .int .i64 r.phase, .slice oa r.pend.objects.length oc, .slice ua r.pend.updates.length uc, .bool r.pend.force] 28)).alloc (.cells #[.slice pa p.objects.length pc, .slice qa p.updates.length qc, .bool p.force] 26)).heap[w.heap.size]? = some (.cells #[.slice sa r.store.length sc, .slice ra r.refs.length rc, .int .i64 r.gen, .int .i64 r.phase, .slice oa r.pend.objects.length oc, .slice ua r.pend.updates.length uc, .bool r.pend.force] 28 (0, 0)) from (Below.heap_alloc _ _ _ (by simp)).trans (heap_alloc_new w _))
 have HX2 := Lib.hid (show ((w.alloc (.cells #[.slice sa r.store.length sc, .slice ra r.refs.length rc, .int .i64 r.gen, .int .i64 r.phase, .slice oa r.pend.objects.length oc, .slice ua r.pend.updates.length uc, .bool r.pend.force] 28)).alloc (.cells #[.slice pa p.objects.length pc, .slice qa p.updates.length qc, .bool p.force] 26)).heap[w.heap.size + 1]? = some (.cells #[.slice pa p.objects.length pc, .slice qa p.updates.length qc, .bool p.force] 26 (0, 0)) from by have := heap_alloc_new (w.alloc (.cells #[.slice sa r.store.length sc, .slice ra r.refs.length rc, .int .i64 r.gen, .int .i64 r.phase, .slice oa r.pend.objects.length oc, .slice ua r.pend.updates.length uc, .bool r.pend.force] 28)) (.cells #[.slice pa p.objects.length pc, .slice qa p.updates.length qc, .bool p.force] 26); simpa using this)
 have HZ1 := Lib.hid (show ((w.alloc (.cells #[.slice sa r.store.length sc, .slice ra r.refs.length rc, .int .i64 r.gen, .int .i64 r.phase, .slice oa r.pend.objects.length oc, .slice ua r.pend.updates.length uc, .bool r.pend.force] 28)).alloc (.cells #[.slice pa p.objects.length pc, .slice qa p.updates.length qc, .bool p.force] 26)).heap.size = w.heap.size + 2 by simp)
 have HBW := Lib.hid hbw
 clear hbw
 go_enter Tryz.func3, Tryz.ntmps3
 go_wp2_with fail
 generalize ((w.alloc (.cells #[.slice sa r.store.length sc, .slice ra r.refs.length rc, .int .i64 r.gen, .int .i64 r.phase, .slice oa r.pend.objects.length oc, .slice ua r.pend.updates.length uc, .bool r.pend.force] 28)).alloc (.cells #[.slice pa p.objects.length pc, .slice qa p.updates.length qc, .bool p.force] 26)) = w1 at *
 obtain ⟨R, hR, hR1, hRall⟩ := cls_plain w1
 have hRb := hR.below
 have hRn := hR.next
 have HRw := Lib.hid (fun x (hx : In R x) => HBW.out.trans ((hRb _ hx).mono (by have := HZ1.out; omega)))
 refine (replicaBegun_any _ (HT.out.below (HRw.out _ hR1))).mono ?_
 rintro e x2 ⟨rfl, hb⟩
 have hR2 := hRn _ _ hR1 hb
 clear hb hR1
 go_wp2_with fail
 refine (pushBegun_any _).mono ?_
 rintro e x3 ⟨rfl, hb⟩
 have hR3 := hRn _ _ hR2 hb
 clear hb hR2
 go_wp2_with fail
 refine (storeBegun_any _).mono ?_
 rintro e x4 ⟨rfl, hb⟩
 have hR4 := hRn _ _ hR3 hb
 clear hb hR3
 go_wp2_with fail
 refine (walkBegun_any _).mono ?_
 rintro e x5 ⟨rfl, hb⟩
 have hR5 := hRn _ _ hR4 hb
 clear hb hR4
 go_wp2_with fail
 refine (diffBegun_any _).mono ?_
 rintro e x6 ⟨rfl, hb⟩
 have hR6 := hRn _ _ hR5 hb
 clear hb hR5
 go_wp2_with fail
 refine (objectBegun_any _).mono ?_
 rintro e x7 ⟨rfl, hb⟩
 have hR7 := hRn _ _ hR6 hb
 clear hb hR6
 go_wp2_with fail
 refine (voteBegun_any _ (HT.out.below (HRw.out _ hR7))).mono ?_
 rintro e x8 ⟨rfl, hb⟩
 have hR8 := hRn _ _ hR7 hb
 clear hb hR7
 go_upto_region 3 with fail
 have HC := Lib.hid (fun x (hx : In R x) => (show Calls Tryz.prog 15 #[(.agg #[.slice sa r.store.length sc, .slice ra r.refs.length rc, .int .i64 r.gen, .int .i64 r.phase, .slice oa r.pend.objects.length oc, .slice ua r.pend.updates.length uc, .bool r.pend.force])] x fun e w' => ∃ s q o u, e = .returned (repV r s q o u) ∧ RepIs (fun b => x.heap.size ≤ b) w' r s q o u ∧ Below x.heap.size x w' from copiedReplica_any r _ _ _ _ S x (H.out.below (HRw.out _ hx))))
 have HD := Lib.hid (fun x (hx : In R x) => copiedPush_any p _ _ S1 S1 x (HO.out.below (HRw.out _ hx)) (HU.out.below (HRw.out _ hx)))
 have HE := Lib.hid (fun x (hx : In R x) => copiedStore_any on _ S2 x (HN.out.below (HRw.out _ hx)))
 go_cut [7, 8, 9] (fun s7 s8 s9 wx => ∃ D7 D8 a9 c9, s7 = .pointer (some ⟨D7, 0, none⟩) ∧ s8 = .pointer (some ⟨D8, 0, none⟩) ∧ s9 = .slice a9 on.length c9 ∧ ∃ y, y = wx ∧ Hid (RestAt w1 r p on D7 D8 a9 c9 y))
 case first =>
  refine any_start (n := 11) (by kernel_rfl) rfl ?_
  have hR9 := hR.drew _ hR8
  generalize x8.drew = x9 at hR9 ⊢
  refine any_invD [[], [0], [], [2], [], [4], [], [], [6, 1, 5], [7, 3, 8], [5, 9]] (fun f a x => RJ w1 r p on (.agg #[.slice sa r.store.length sc, .slice ra r.refs.length rc, .int .i64 r.gen, .int .i64 r.phase, .slice oa r.pend.objects.length oc, .slice ua r.pend.updates.length uc, .bool r.pend.force]) (.agg #[.slice pa p.objects.length pc, .slice qa p.updates.length qc, .bool p.force]) (.slice na on.length nc) (.pointer (some ⟨w.heap.size, 0, none⟩)) (.pointer (some ⟨w.heap.size + 1, 0, none⟩)) f a x) ?_ ?_ ?_
  case refine_1 => exact RJ.mk (S := fun _ => False) (v63 := undef) (v64 := undef) (v65 := undef) (v66 := undef) (v67 := undef) (v68 := undef) (v7 := undef) (v8 := undef) (v9 := undef) ⟨hRb _ hR9, fun _ h => h.elim, (fun h => by cases h), (fun h => by cases h), (fun h => by cases h), (fun h => by cases h), (fun h => by cases h), (fun h => by cases h), (fun h => by cases h), (fun h => by cases h), (fun h => by cases h), (fun h => by cases h), (fun h => by cases h), (fun h => by cases h), (fun h => by cases h), (fun h => by cases h)⟩
  case refine_3 =>
   rintro f a x hf ⟨v63, v64, v65, v66, v67, v68, v7, v8, v9, S0, rfl, h3⟩
   obtain ⟨D7, D8, a9, c9, rfl, rfl, rfl, hat⟩ := h3.fin hf
   have HA := Lib.hid hat
   unfold restL
   go_wp2_with fail
   go_meet
   exact ⟨D7, D8, a9, c9, rfl, rfl, rfl, x, rfl, HA⟩
  case refine_2 =>
   rintro i hi f a x ⟨v63, v64, v65, v66, v67, v68, v7, v8, v9, S0, rfl, h3⟩ hfi hdp
   have hx : In R x := hRall _ h3.B
   rcases (show i = 0 ∨ i = 1 ∨ i = 2 ∨ i = 3 ∨ i = 4 ∨ i = 5 ∨ i = 6 ∨ i = 7 ∨ i = 8 ∨ i = 9 ∨ i = 10 by omega) with rfl | rfl | rfl | rfl | rfl | rfl | rfl | rfl | rfl | rfl | rfl
   ·have hb := blk_below HX1.out h3.B
    have y0 := block_cell (j := 0) hb rfl
    have y1 := block_cell (j := 1) hb rfl
    have y2 := block_cell (j := 2) hb rfl
    have y3 := block_cell (j := 3) hb rfl
    have y4 := block_cell (j := 4) hb rfl
    have y5 := block_cell (j := 5) hb rfl
    have y6 := block_cell (j := 6) hb rfl
    refine op_pure (.agg #[.slice sa r.store.length sc, .slice ra r.refs.length rc, .int .i64 r.gen, .int .i64 r.phase, .slice oa r.pend.objects.length oc, .slice ua r.pend.updates.length uc, .bool r.pend.force]) ?_ (RJ.mk h3.s0)
    go_simp
   ·obtain rfl := h3.h0 (hdp 0 (by decide))
    refine op_any (fun K hK => ?_)
    go_wp2_with fail
    refine (HC.out _ hx).mono ?_
    rintro e x' ⟨s, q, o, u, rfl, hv, hb⟩
    exact hK _ _ (RJ.mk (h3.s1 hfi hb hv))
   ·have hb := blk_below HX2.out h3.B
    have y0 := block_cell (j := 0) hb rfl
    have y1 := block_cell (j := 1) hb rfl
    have y2 := block_cell (j := 2) hb rfl
    refine op_pure (.agg #[.slice pa p.objects.length pc, .slice qa p.updates.length qc, .bool p.force]) ?_ (RJ.mk h3.s2)
    go_simp
   ·obtain rfl := h3.h2 (hdp 2 (by decide))
    refine op_any (fun K hK => ?_)
    go_wp2_with fail
    refine (HD.out _ hx).mono ?_
    rintro e x' ⟨q, u, rfl, hq, hu, hb⟩
    exact hK _ _ (RJ.mk (h3.s3 hfi hb hq hu))
   ·refine op_pure (.slice na on.length nc) ?_ (RJ.mk h3.s4)
    go_simp
   ·obtain rfl := h3.h4 (hdp 4 (by decide))
    refine op_any (fun K hK => ?_)
    go_wp2_with fail
    refine (HE.out _ hx).mono ?_
    rintro e x' ⟨v, rfl, hv, hb⟩
    exact hK _ _ (RJ.mk (h3.s5 hfi hb hv))
   ·refine op_any (fun K hK => ?_)
    go_wp2_with fail
    exact RJ.mk (h3.s6 hfi)
   ·refine op_any (fun K hK => ?_)
    go_wp2_with fail
    exact RJ.mk (h3.s7 hfi)
   ·obtain ⟨D, u0, u1, u2, u3, u4, u5, u6, rfl, hn, hl, hc, _⟩ := h3.h6 (hdp 6 (by decide))
    obtain ⟨s, q, o, u, rfl, hv⟩ := h3.h1 (hdp 1 (by decide))
    obtain ⟨s1, s2, rfl⟩ := hv.store.vshape
    obtain ⟨⟨q1, q2⟩, rfl⟩ := hv.refs.shape
    obtain ⟨o1, o2, rfl⟩ := hv.objs.vshape
    obtain ⟨⟨m1, m2⟩, rfl⟩ := hv.upds.shape
    have h4 := h3.s8 (hdp 6 (by decide)) (hdp 1 (by decide)) rfl rfl hl hn hc
    have g0 := block_cell (j := 0) hc rfl
    have f0 := block_free (j := 0) hc
    have g1 := block_cell (j := 1) hc rfl
    have f1 := block_free (j := 1) hc
    have g2 := block_cell (j := 2) hc rfl
    have f2 := block_free (j := 2) hc
    have g3 := block_cell (j := 3) hc rfl
    have f3 := block_free (j := 3) hc
    have g4 := block_cell (j := 4) hc rfl
    have f4 := block_free (j := 4) hc
    have g5 := block_cell (j := 5) hc rfl
    have f5 := block_free (j := 5) hc
    have g6 := block_cell (j := 6) hc rfl
    have f6 := block_free (j := 6) hc
    clear hv hc
    simp only [repV]
    refine op_any (fun K hK => ?_)
    go_wp2_with fail
    exact RJ.mk h4
   ·obtain ⟨D, u0, u1, u2, rfl, hn, hl, hc, _⟩ := h3.h7 (hdp 7 (by decide))
    obtain ⟨q, u, rfl, hv, hv2⟩ := h3.h3 (hdp 3 (by decide))
    obtain ⟨o1, o2, rfl⟩ := hv.vshape
    obtain ⟨⟨m1, m2⟩, rfl⟩ := hv2.shape
    have h4 := h3.s9 (hdp 7 (by decide)) (hdp 3 (by decide)) rfl rfl hl hn hc
    have g0 := block_cell (j := 0) hc rfl
    have f0 := block_free (j := 0) hc
    have g1 := block_cell (j := 1) hc rfl
    have f1 := block_free (j := 1) hc
    have g2 := block_cell (j := 2) hc rfl
    have f2 := block_free (j := 2) hc
    clear hv hc
    refine op_any (fun K hK => ?_)
    go_wp2_with fail
    exact RJ.mk h4
   ·refine op_pure v68 ?_ (RJ.mk (h3.s10 (hdp 5 (by decide))))
    go_simp
 case rest =>
  obtain ⟨D7, D8, a9, c9, rfl, rfl, rfl, y, rfl, HA⟩ := hcut
  clear HC HD HE hR8
  have HTy := Lib.hid (fun x (hx : In R x) => (HRw.out _ hx))
  clear HTy
  have hRy := hRall _ HA.out.1
  have HCk := Lib.hid (fun x (hx : In R x) => checkPush_any p _ _ S1 S1 x (HO.out.below (HRw.out _ hx)) (HU.out.below (HRw.out _ hx)))
  have HTr := Lib.hid (fun x (hx : In R x) => tryOf_any r p _ _ _ _ (.slice oa r.pend.objects.length oc) (.slice ua r.pend.updates.length uc) S S S1 S1 x (H.out.store.below (HRw.out _ hx)) (H.out.refs.below (HRw.out _ hx)) (HO.out.below (HRw.out _ hx)) (HU.out.below (HRw.out _ hx)) ⟨⟨_, _, _, rfl⟩, _, _, _, rfl⟩)
  have eb := blk_below HX2.out (hRb _ hRy)
  have e0 := block_cell (j := 0) eb rfl
  have e1 := block_cell (j := 1) eb rfl
  have e2 := block_cell (j := 2) eb rfl
  go_wp2_with fail
  refine (HCk.out _ hRy).mono ?_
  rintro e y1 ⟨rfl, hb⟩
  have hR1 := hRn _ _ hRy hb
  have HA1 := Lib.hid (HA.out.below hb)
  clear hb HA hRy HCk eb e0 e1 e2
  obtain ⟨L, hL⟩ : ∃ L, L = if checkPsh p = 0 then tryL r p else [] := ⟨_, rfl⟩
  obtain ⟨E, hE⟩ : ∃ E, E = if checkPsh p = 0 then tryE r p else checkPsh p := ⟨_, rfl⟩
  have HL := Lib.hid hL
  have HE := Lib.hid hE
  clear hL hE
  go_upto_if 72 with fail
  go_cut [10, 11] (fun s10 s11 wx => s10 = .int .i64 E ∧ ∃ a11 c11, s11 = .slice a11 L.length c11 ∧ ∃ y, y = wx ∧ Hid (RestAt w1 r p on D7 D8 a9 c9 y ∧ StoreV (fun _ => True) y (.slice a11 L.length c11) L))
  case first =>
   by_cases hc : checkPsh p = 0
   case pos =>
    have db := blk_below HX1.out (hRb _ hR1)
    have d0 := block_cell (j := 0) db rfl
    have d1 := block_cell (j := 1) db rfl
    have d2 := block_cell (j := 2) db rfl
    have d3 := block_cell (j := 3) db rfl
    have d4 := block_cell (j := 4) db rfl
    have d5 := block_cell (j := 5) db rfl
    have d6 := block_cell (j := 6) db rfl
    have eb := blk_below HX2.out (hRb _ hR1)
    have e0 := block_cell (j := 0) eb rfl
    have e1 := block_cell (j := 1) eb rfl
    have e2 := block_cell (j := 2) eb rfl
    rw [hc]
    rw [if_pos hc] at HL HE
    go_wp2_with fail
    refine (HTr.out _ hR1).mono ?_
    rintro e y2 ⟨v, u, rfl, hv, _, hb⟩
    have HA2 := Lib.hid (HA1.out.below hb)
    obtain ⟨a11, c11, rfl⟩ := hv.vshape
    rw [← HL.out] at hv
    have Hv := Lib.hid hv
    clear hv hb db d0 d1 d2 d3 d4 d5 d6 eb e0 e1 e2
    go_wp2_with fail
    go_meet
    exact ⟨by rw [HE.out], a11, c11, by rw [HL.out], _, rfl, HA2.out, Hv.out⟩
   case neg =>
    have q1 : (checkPsh p == 0) = false := by simpa using hc
    rw [if_neg hc] at HL HE
    go_wp2_with fail
    go_meet
    exact ⟨by rw [HE.out], none, 0, by rw [HL.out]; rfl, _, rfl, HA1.out, by rw [HL.out]; exact StoreV.nil _ _ _ _ (by omega)⟩
  case rest =>
   obtain ⟨rfl, a11, c11, rfl, y, rfl, HAL⟩ := hcut
   clear HA1 hR1 HTr
   obtain ⟨hA, hv11⟩ := HAL.out
   obtain ⟨hB0, ⟨s7, q7, o7, u7, h7, hR7⟩, ⟨q8, u8, h8, hO8, hU8⟩, hN9⟩ := hA
   obtain ⟨sa7, sc7, rfl⟩ := hR7.store.vshape
   obtain ⟨⟨ra7, rc7⟩, rfl⟩ := hR7.refs.shape
   obtain ⟨oa7, oc7, rfl⟩ := hR7.objs.vshape
   obtain ⟨⟨ua7, uc7⟩, rfl⟩ := hR7.upds.shape
   obtain ⟨oa8, oc8, rfl⟩ := hO8.vshape
   obtain ⟨⟨ua8, uc8⟩, rfl⟩ := hU8.shape
   clear HAL
   dsimp only at h7 hR7 h8 hU8
   obtain ⟨T, hT, hT1, hTall⟩ := cls_plain y
   have hTb := hT.below
   have hTn := hT.next
   have HTR := Lib.hid (fun x (hx : In T x) => hB0.trans ((hTb _ hx).mono hB0.size))
   have HTw := Lib.hid (fun x (hx : In T x) => HRw.out _ (hRall _ (HTR.out _ hx)))
   have HX7 := Lib.hid (fun x (hx : In T x) => blk_below h7 (hTb _ hx))
   have HX8 := Lib.hid (fun x (hx : In T x) => blk_below h8 (hTb _ hx))
   have HXa := Lib.hid (fun x (hx : In T x) => blk_below HX1.out (HTR.out _ hx))
   have HXb := Lib.hid (fun x (hx : In T x) => blk_below HX2.out (HTR.out _ hx))
   have HG1 := Lib.hid (fun (n : Nat) (hn : y.heap.size ≤ n) => fun b hb => Nat.lt_of_lt_of_le (HG.out b hb) (Nat.le_trans (HTw.out _ hT1).size hn))
   have HLv := Lib.hid (fun x (hx : In T x) => hv11.below (hTb _ hx))
   have H7 := Lib.hid (fun x (hx : In T x) => hR7.below (hTb _ hx))
   have HO8 := Lib.hid (fun x (hx : In T x) => hO8.below (hTb _ hx))
   have HU8 := Lib.hid (fun x (hx : In T x) => hU8.below (hTb _ hx))
   have HN9 := Lib.hid (fun x (hx : In T x) => hN9.below (hTb _ hx))
   have HPt := Lib.hid (fun x (hx : In T x) => (show Calls Tryz.prog 20 #[.agg #[.slice sa7 r.store.length sc7, .slice ra7 r.refs.length rc7, .int .i64 r.gen, .int .i64 r.phase, .slice oa7 r.pend.objects.length oc7, .slice ua7 r.pend.updates.length uc7, .bool r.pend.force], .agg #[.slice oa8 p.objects.length oc8, .slice ua8 p.updates.length uc8, .bool p.force]] x fun e w' => ∃ M, RetTryP (fun b => x.heap.size ≤ b) x w' e L M E from by
    have h := pushTryF_any r p _ _ _ _ (.slice oa7 r.pend.objects.length oc7) (.slice ua7 r.pend.updates.length uc7) _ _ _ _ x (H7.out x hx).store (H7.out x hx).refs (HO8.out x hx) (HU8.out x hx) ⟨⟨_, _, _, rfl⟩, _, _, _, rfl⟩
    rw [← HL.out, ← HE.out] at h
    exact h.mono fun e w' g => ⟨_, g⟩))
   have HSi := Lib.hid (fun v (S : Nat → Prop) x (hx : In T x) (hv : StoreV S x v L) => (show Calls Tryz.prog 21 #[v, .int .i64 E, .int .i64 E, .slice a11 L.length c11] x fun e w' => e = .returned (.bool true) ∧ Below x.heap.size x w' from by
    have h := storeIs_any L L E E _ _ _ _ x hv (HLv.out x hx)
    rw [(storeIsB_same L E).2 (by
     have hL := HL.out; have hE := HE.out
     by_cases hc : checkPsh p = 0
     ·rw [if_pos hc] at hL hE
      by_cases he : E = 0
      ·exact .inl he
      ·right; rw [hL]; rw [hE] at he; unfold tryL; rw [if_neg he]
     ·rw [if_neg hc] at hL; exact .inr hL)] at h
    exact h))
   have HPr := Lib.hid (fun x (hx : In T x) => prepare_any r p _ _ _ _ _ _ _ _ x (H7.out x hx) (HO8.out x hx) (HU8.out x hx))
   have HCr := Lib.hid (fun x (hx : In T x) => crash_any r _ _ _ _ _ x (H7.out x hx))
   have HAd := Lib.hid (fun x (hx : In T x) => addF_any on p.objects _ _ _ _ x (HN9.out x hx) (HO8.out x hx))
   have HDo := Lib.hid (fun x (hx : In T x) => objectsF_any r.store on _ _ _ _ x (H7.out x hx).store (HN9.out x hx))
   have HPa := Lib.hid (fun v (S : Nat → Prop) x (hx : In T x) (hv : IntsV S x v [3]) => partF_any r.store [3] _ _ _ _ x (H7.out x hx).store hv)
   have HFi := Lib.hid (fun x (hx : In T x) => storeFind_any r.store 3 _ _ x (H7.out x hx).store)
   have HNe := Lib.hid (fun x (hx : In T x) => needsF_any on p _ _ _ _ _ _ x (HN9.out x hx) (HO8.out x hx) (HU8.out x hx))
   have HOf := Lib.hid (fun x (hx : In T x) => of_any r p _ _ _ _ (.slice oa7 r.pend.objects.length oc7) (.slice ua7 r.pend.updates.length uc7) _ _ _ _ x (H7.out x hx).store (H7.out x hx).refs (HO8.out x hx) (HU8.out x hx) ⟨⟨_, _, _, rfl⟩, _, _, _, rfl⟩ (HT.out.below (HTw.out x hx)))
   have HSr := Lib.hid (fun x (hx : In T x) => sameReplica_any r r _ _ _ _ _ _ _ _ _ _ x (H7.out x hx) (H.out.below (HTw.out x hx)))
   have HSp := Lib.hid (fun x (hx : In T x) => samePush_any p p _ _ _ _ _ _ x (HO8.out x hx) (HU8.out x hx) (HO.out.below (HTw.out x hx)) (HU.out.below (HTw.out x hx)))
   have HSs := Lib.hid (fun x (hx : In T x) => sameStore_any on on _ _ _ _ x (HN9.out x hx) (HN.out.below (HTw.out x hx)))
   have q1 := (sameRep_iff r r).2 rfl
   have q2 := (samePsh_iff p p).2 rfl
   have q3 := (sameStore_iff on on).2 rfl
   rw [q1] at HSr; rw [q2] at HSp; rw [q3] at HSs
   clear q1 q2 q3 h7 h8 hR7 hO8 hU8 hN9 hv11 hB0 HX1 HX2 HBW HZ1
   simp only [repV, pshV] at HPr HCr HSr HSp
   go_wp2_with fail
   go_loopw [12] (fun i wr => ∃ k : Nat, k ≤ 2 ∧ i = .int .i64 k ∧ In T wr) (fun i _ => 2 - (intOf i).toNat)
   case atStart => exact ⟨0, by omega, rfl, hT1⟩
   case round =>
    clear hT1
    obtain ⟨k, hk, rfl, hT0⟩ := hrel
    by_cases hlt : k < 2
    case neg =>
     obtain rfl : k = 2 := by omega
     have HEnd := Lib.hid (HTw.out _ hT0)
     go_wp2_with fail
     go_ret
     exact ⟨rfl, HEnd.out⟩
    case pos =>
     have hk2 : (k : Int) < 2 := by omega
     have Hg := Lib.hid (HG1.out _ (hTb _ hT0).size)
     have HN0 := Lib.hid (hTb _ hT0).size
     obtain ⟨N, hN⟩ : ∃ N, N = wr.heap.size := ⟨_, rfl⟩
     rw [← hN] at Hg HN0
     have HS0 := Lib.hid (Sps.nil (N := N) (w := wr) (by omega))
     have HgN := Lib.hid (fun (x : World) (l : List Sp) (h : Sps N x l) => fun b (hb : x.heap.size ≤ b) => Nat.le_trans h.1 hb)
     clear hN
     have gb := HX7.out _ hT0
     have g0 := block_cell (j := 0) gb rfl
     have g1 := block_cell (j := 1) gb rfl
     have g2 := block_cell (j := 2) gb rfl
     have g3 := block_cell (j := 3) gb rfl
     have g4 := block_cell (j := 4) gb rfl
     have g5 := block_cell (j := 5) gb rfl
     have g6 := block_cell (j := 6) gb rfl
     have mb := HX8.out _ hT0
     have m0 := block_cell (j := 0) mb rfl
     have m1 := block_cell (j := 1) mb rfl
     have m2 := block_cell (j := 2) mb rfl
     go_wp2_with fail
     refine (HPt.out _ hT0).mono ?_
     rintro e x1 ⟨M, v13, v14, rfl, hs, hr, hb⟩
     have hT1 := hTn _ _ hT0 hb
     have HS1 := Lib.hid (HS0.out.below hb)
     clear gb g0 g1 g2 g3 g4 g5 g6 mb m0 m1 m2
     obtain ⟨a13, c13, rfl⟩ := hs.vshape
     obtain ⟨⟨a14, c14⟩, rfl⟩ := hr.shape
     have Hl13 := Lib.hid hs.len
     have Hl14 := Lib.hid hr.len
     replace HS1 := Lib.hid (Sps.cons (s := .rots a13 L.length) (rots_of hs (HgN.out _ _ HS0.out) Hg.out) HS1.out)
     replace HS1 := Lib.hid (Sps.cons (s := .texts a14 M.length 2 0) (refs_texts hr (HgN.out _ _ HS0.out) Hg.out) HS1.out)
     have hi := HSi.out _ _ _ hT1 hs
     clear hb hT0 HS0 hs hr
     go_wp2_with fail
     refine (hi).mono ?_
     rintro e x2 ⟨rfl, hb⟩
     have hT2 := hTn _ _ hT1 hb
     have HS2 := Lib.hid (HS1.out.below hb)
     clear hb hT1 HS1 hi
     have gb := HX7.out _ hT2
     have g0 := block_cell (j := 0) gb rfl
     have g1 := block_cell (j := 1) gb rfl
     have g2 := block_cell (j := 2) gb rfl
     have g3 := block_cell (j := 3) gb rfl
     have g4 := block_cell (j := 4) gb rfl
     have g5 := block_cell (j := 5) gb rfl
     have g6 := block_cell (j := 6) gb rfl
     have mb := HX8.out _ hT2
     have m0 := block_cell (j := 0) mb rfl
     have m1 := block_cell (j := 1) mb rfl
     have m2 := block_cell (j := 2) mb rfl
     go_wp2_with fail
     refine (HPr.out _ hT2).mono ?_
     rintro e x3 ⟨sv, rv, ov, uv, rfl, hI, hb⟩
     have hT3 := hTn _ _ hT2 hb
     have HS3 := Lib.hid (HS2.out.below hb)
     clear gb g0 g1 g2 g3 g4 g5 g6 mb m0 m1 m2
     simp only [repV]
     obtain ⟨a16s, c16s, rfl⟩ := hI.store.vshape
     obtain ⟨⟨a16r, c16r⟩, rfl⟩ := hI.refs.shape
     obtain ⟨a16o, c16o, rfl⟩ := hI.objs.vshape
     obtain ⟨⟨a16u, c16u⟩, rfl⟩ := hI.upds.shape
     have Hl16s := Lib.hid hI.store.len
     have Hl16r := Lib.hid hI.refs.len
     have Hl16o := Lib.hid hI.objs.len
     have Hl16u := Lib.hid hI.upds.len
     have hN := HgN.out _ _ HS2.out
     replace HS3 := Lib.hid (Sps.cons (s := .rots a16s (prepR r p).store.length) (rots_of hI.store hN Hg.out) HS3.out)
     replace HS3 := Lib.hid (Sps.cons (s := .texts a16r (prepR r p).refs.length 2 0) (refs_texts hI.refs hN Hg.out) HS3.out)
     replace HS3 := Lib.hid (Sps.cons (s := .rots a16o (prepR r p).pend.objects.length) (rots_of hI.objs hN Hg.out) HS3.out)
     replace HS3 := Lib.hid (Sps.cons (s := .texts a16u (prepR r p).pend.updates.length 3 0) (mvs_texts hI.upds hN Hg.out) HS3.out)
     clear hb hT2 HS2 hI hN
     have hT4 := hT.alloc _ (.cells #[.slice a16s (prepR r p).store.length c16s, .slice a16r (prepR r p).refs.length c16r, .int .i64 (prepR r p).gen, .int .i64 (prepR r p).phase, .slice a16o (prepR r p).pend.objects.length c16o, .slice a16u (prepR r p).pend.updates.length c16u, .bool (prepR r p).pend.force] 28) hT3
     have HS4 := Lib.hid (HS3.out.boxed [.slice a16s (prepR r p).store.length c16s, .slice a16r (prepR r p).refs.length c16r, .int .i64 (prepR r p).gen, .int .i64 (prepR r p).phase, .slice a16o (prepR r p).pend.objects.length c16o, .slice a16u (prepR r p).pend.updates.length c16u, .bool (prepR r p).pend.force] 28)
     have gb := HX7.out _ hT4
     have g0 := block_cell (j := 0) gb rfl
     have g1 := block_cell (j := 1) gb rfl
     have g2 := block_cell (j := 2) gb rfl
     have g3 := block_cell (j := 3) gb rfl
     have g4 := block_cell (j := 4) gb rfl
     have g5 := block_cell (j := 5) gb rfl
     have g6 := block_cell (j := 6) gb rfl
     go_wp2_with fail
     generalize hD : x3.heap.size = D16 at *
     clear hD
     generalize (x3.alloc (.cells #[.slice a16s (prepR r p).store.length c16s, .slice a16r (prepR r p).refs.length c16r, .int .i64 (prepR r p).gen, .int .i64 (prepR r p).phase, .slice a16o (prepR r p).pend.objects.length c16o, .slice a16u (prepR r p).pend.updates.length c16u, .bool (prepR r p).pend.force] 28)) = x4 at *
     clear hT3 HS3
     refine (HCr.out _ hT4).mono ?_
     rintro e x5 ⟨sv, rv, ov, uv, rfl, hI, hb⟩
     have hT5 := hTn _ _ hT4 hb
     have HS5 := Lib.hid (HS4.out.below hb)
     clear gb g0 g1 g2 g3 g4 g5 g6
     simp only [repV]
     obtain ⟨a18s, c18s, rfl⟩ := hI.store.vshape
     obtain ⟨⟨a18r, c18r⟩, rfl⟩ := hI.refs.shape
     obtain ⟨a18o, c18o, rfl⟩ := hI.objs.vshape
     obtain ⟨⟨a18u, c18u⟩, rfl⟩ := hI.upds.shape
     have Hl18s := Lib.hid hI.store.len
     have Hl18r := Lib.hid hI.refs.len
     have Hl18o := Lib.hid hI.objs.len
     have Hl18u := Lib.hid hI.upds.len
     have hN := HgN.out _ _ HS4.out
     replace HS5 := Lib.hid (Sps.cons (s := .rots a18s (craR r).store.length) (rots_of hI.store hN Hg.out) HS5.out)
     replace HS5 := Lib.hid (Sps.cons (s := .texts a18r (craR r).refs.length 2 0) (refs_texts hI.refs hN Hg.out) HS5.out)
     replace HS5 := Lib.hid (Sps.cons (s := .rots a18o (craR r).pend.objects.length) (rots_of hI.objs hN Hg.out) HS5.out)
     replace HS5 := Lib.hid (Sps.cons (s := .texts a18u (craR r).pend.updates.length 3 0) (mvs_texts hI.upds hN Hg.out) HS5.out)
     clear hb hT4 HS4 hI hN
     have hT6 := hT.alloc _ (.cells #[.slice a18s (craR r).store.length c18s, .slice a18r (craR r).refs.length c18r, .int .i64 (craR r).gen, .int .i64 (craR r).phase, .slice a18o (craR r).pend.objects.length c18o, .slice a18u (craR r).pend.updates.length c18u, .bool (craR r).pend.force] 28) hT5
     have HS6 := Lib.hid (HS5.out.boxed [.slice a18s (craR r).store.length c18s, .slice a18r (craR r).refs.length c18r, .int .i64 (craR r).gen, .int .i64 (craR r).phase, .slice a18o (craR r).pend.objects.length c18o, .slice a18u (craR r).pend.updates.length c18u, .bool (craR r).pend.force] 28)
     have mb := HX8.out _ hT6
     have m0 := block_cell (j := 0) mb rfl
     have m1 := block_cell (j := 1) mb rfl
     have m2 := block_cell (j := 2) mb rfl
     go_wp2_with fail
     generalize hD : x5.heap.size = D18 at *
     clear hD
     generalize (x5.alloc (.cells #[.slice a18s (craR r).store.length c18s, .slice a18r (craR r).refs.length c18r, .int .i64 (craR r).gen, .int .i64 (craR r).phase, .slice a18o (craR r).pend.objects.length c18o, .slice a18u (craR r).pend.updates.length c18u, .bool (craR r).pend.force] 28)) = x6 at *
     clear hT5 HS5
     refine (HAd.out _ hT6).mono ?_
     rintro e x7 ⟨v, rfl, hs, hb⟩
     have hT7 := hTn _ _ hT6 hb
     have HS7 := Lib.hid (HS6.out.below hb)
     clear mb m0 m1 m2
     obtain ⟨a20, c20, rfl⟩ := hs.vshape
     have Hl20 := Lib.hid hs.len
     replace HS7 := Lib.hid (Sps.cons (s := .rots a20 (addL on p.objects).length) (rots_of hs (HgN.out _ _ HS6.out) Hg.out) HS7.out)
     clear hb hT6 HS6 hs
     have gb := HX7.out _ hT7
     have g0 := block_cell (j := 0) gb rfl
     have g1 := block_cell (j := 1) gb rfl
     have g2 := block_cell (j := 2) gb rfl
     have g3 := block_cell (j := 3) gb rfl
     have g4 := block_cell (j := 4) gb rfl
     have g5 := block_cell (j := 5) gb rfl
     have g6 := block_cell (j := 6) gb rfl
     go_wp2_with fail
     refine (HDo.out _ hT7).mono ?_
     rintro e x8 ⟨v, rfl, hs, hb⟩
     have hT8 := hTn _ _ hT7 hb
     have HS8 := Lib.hid (HS7.out.below hb)
     clear gb g0 g1 g2 g3 g4 g5 g6
     obtain ⟨a22, c22, rfl⟩ := hs.vshape
     have Hl22 := Lib.hid hs.len
     replace HS8 := Lib.hid (Sps.cons (s := .rots a22 (diffL r.store on).length) (rots_of hs (HgN.out _ _ HS7.out) Hg.out) HS8.out)
     clear hb hT7 HS7 hs
     have gb := HX7.out _ hT8
     have g0 := block_cell (j := 0) gb rfl
     have g1 := block_cell (j := 1) gb rfl
     have g2 := block_cell (j := 2) gb rfl
     have g3 := block_cell (j := 3) gb rfl
     have g4 := block_cell (j := 4) gb rfl
     have g5 := block_cell (j := 5) gb rfl
     have g6 := block_cell (j := 6) gb rfl
     have hi := ints_new x8 [3] 3 x8.heap.size rfl (by simp) (by intro x hx; simp only [List.mem_cons, List.not_mem_nil, or_false] at hx; subst hx; exact small64 _ (by omega))
     have hT9 := hT.alloc _ (.cells #[.int .i64 3] 3) hT8
     have HS9 := Lib.hid (HS8.out.below ((Below.refl _ _).alloc (Nat.le_refl _) (.cells #[.int .i64 3] 3)))
     have hP := HPa.out _ _ _ hT9 hi
     clear hi
     go_wp2_with fail
     refine (hP).mono ?_
     rintro e x10 ⟨v, rfl, hs, hb⟩
     have hT10 := hTn _ _ hT9 hb
     have HS10 := Lib.hid (HS9.out.below hb)
     clear gb g0 g1 g2 g3 g4 g5 g6
     obtain ⟨a24, c24, rfl⟩ := hs.vshape
     have Hl24 := Lib.hid hs.len
     replace HS10 := Lib.hid (Sps.cons (s := .rots a24 (partRes r.store [3]).length) (rots_of hs (HgN.out _ _ HS9.out) Hg.out) HS10.out)
     clear hb hT9 HS9 hs
     clear hT8 HS8 hP
     have gb := HX7.out _ hT10
     have g0 := block_cell (j := 0) gb rfl
     have g1 := block_cell (j := 1) gb rfl
     have g2 := block_cell (j := 2) gb rfl
     have g3 := block_cell (j := 3) gb rfl
     have g4 := block_cell (j := 4) gb rfl
     have g5 := block_cell (j := 5) gb rfl
     have g6 := block_cell (j := 6) gb rfl
     go_wp2_with fail
     refine (HFi.out _ hT10).mono ?_
     rintro e x11 ⟨v26, rfl, hO, hb⟩
     have hT11 := hTn _ _ hT10 hb
     have HS11 := Lib.hid (HS10.out.below hb)
     clear gb g0 g1 g2 g3 g4 g5 g6
     obtain ⟨⟨a26, c26⟩, e26⟩ := hO.1.shape
     dsimp only at e26
     subst e26
     have Hl26 := Lib.hid hO.1.len
     replace HS11 := Lib.hid (Sps.cons (s := .nums a26 (findO r.store 3).links.length) (nums_of hO.1 (HgN.out _ _ HS10.out) Hg.out) HS11.out)
     clear hb hT10 HS10
     clear HFi
     generalize findO r.store 3 = o26 at *
     have Ho := Lib.hid (hO.below ((Below.refl _ _).alloc (Nat.le_refl _) (.cells #[.int .i64 o26.id, .int .i64 o26.kind, .slice a26 o26.links.length c26, .string o26.text] 46)))
     have HX26 := Lib.hid (heap_alloc_new x11 (.cells #[.int .i64 o26.id, .int .i64 o26.kind, .slice a26 o26.links.length c26, .string o26.text] 46))
     clear hO
     have hT12 := hT.alloc _ (.cells #[.int .i64 o26.id, .int .i64 o26.kind, .slice a26 o26.links.length c26, .string o26.text] 46) hT11
     have HS12 := Lib.hid (HS11.out.boxed [.int .i64 o26.id, .int .i64 o26.kind, .slice a26 o26.links.length c26, .string o26.text] 46)
     have mb := HX8.out _ hT12
     have m0 := block_cell (j := 0) mb rfl
     have m1 := block_cell (j := 1) mb rfl
     have m2 := block_cell (j := 2) mb rfl
     go_wp2_with fail
     generalize hD : x11.heap.size = D26 at *
     clear hD
     generalize (x11.alloc (.cells #[.int .i64 o26.id, .int .i64 o26.kind, .slice a26 o26.links.length c26, .string o26.text] 46)) = x12 at *
     clear hT11 HS11
     refine (HNe.out _ hT12).mono ?_
     rintro e x13 ⟨v28, rfl, hI, hb⟩
     have hT13 := hTn _ _ hT12 hb
     have HS13 := Lib.hid (HS12.out.below hb)
     clear mb m0 m1 m2
     obtain ⟨⟨a28, c28⟩, rfl⟩ := hI.shape
     have Hl28 := Lib.hid hI.len
     replace HS13 := Lib.hid (Sps.cons (s := .nums a28 (needsL on p).length) (nums_of hI (HgN.out _ _ HS12.out) Hg.out) HS13.out)
     replace Ho := Lib.hid (Ho.out.below hb)
     replace HX26 := Lib.hid (blk_below HX26.out hb)
     clear hb hT12 HS12 hI
     have gb := HX26.out
     have g0 := block_cell (j := 0) gb rfl
     have g1 := block_cell (j := 1) gb rfl
     have g2 := block_cell (j := 2) gb rfl
     have g3 := block_cell (j := 3) gb rfl
     have hEn := encode_any o26 _ _ x13 Ho.out
     go_wp2_with fail
     refine (hEn).mono ?_
     rintro e x14 ⟨rfl, hb⟩
     have hT14 := hTn _ _ hT13 hb
     have HS14 := Lib.hid (HS13.out.below hb)
     clear gb g0 g1 g2 g3
     clear HX26 Ho hEn
     clear hb hT13 HS13
     have hDe := decode_any (encE o26) x14 (encE_size o26)
     generalize encE o26 = s30 at *
     go_wp2_with fail
     refine hDe.mono ?_
     rintro e x15 ⟨⟨v32, rfl, hO⟩, hb⟩
     have hT15 := hTn _ _ hT14 hb
     have HS15 := Lib.hid (HS14.out.below hb)
     obtain ⟨⟨a32, c32⟩, e32⟩ := hO.1.shape
     dsimp only at e32
     subst e32
     have Hl32 := Lib.hid hO.1.len
     replace HS15 := Lib.hid (Sps.cons (s := .nums a32 (decO s30).links.length) (nums_of hO.1 (HgN.out _ _ HS14.out) Hg.out) HS15.out)
     clear hb hT14 HS14 hO hDe
     generalize decO s30 = o32 at *
     have hT16 := hT.alloc _ (.cells #[.int .i64 o32.id, .int .i64 o32.kind, .slice a32 o32.links.length c32, .string o32.text] 46) hT15
     have HS16 := Lib.hid (HS15.out.boxed [.int .i64 o32.id, .int .i64 o32.kind, .slice a32 o32.links.length c32, .string o32.text] 46)
     have gb := HX7.out _ hT16
     have g0 := block_cell (j := 0) gb rfl
     have g1 := block_cell (j := 1) gb rfl
     have g2 := block_cell (j := 2) gb rfl
     have g3 := block_cell (j := 3) gb rfl
     have g4 := block_cell (j := 4) gb rfl
     have g5 := block_cell (j := 5) gb rfl
     have g6 := block_cell (j := 6) gb rfl
     have mb := HX8.out _ hT16
     have m0 := block_cell (j := 0) mb rfl
     have m1 := block_cell (j := 1) mb rfl
     have m2 := block_cell (j := 2) mb rfl
     go_wp2_with fail
     generalize hD : x15.heap.size = D32 at *
     clear hD
     generalize (x15.alloc (.cells #[.int .i64 o32.id, .int .i64 o32.kind, .slice a32 o32.links.length c32, .string o32.text] 46)) = x16 at *
     clear hT15 HS15
     refine (HOf.out _ hT16).mono ?_
     rintro e x17 ⟨rfl, hb⟩
     have hT17 := hTn _ _ hT16 hb
     have HS17 := Lib.hid (HS16.out.below hb)
     clear gb g0 g1 g2 g3 g4 g5 g6 mb m0 m1 m2
     clear hb hT16 HS16
     have gb := HX7.out _ hT17
     have g0 := block_cell (j := 0) gb rfl
     have g1 := block_cell (j := 1) gb rfl
     have g2 := block_cell (j := 2) gb rfl
     have g3 := block_cell (j := 3) gb rfl
     have g4 := block_cell (j := 4) gb rfl
     have g5 := block_cell (j := 5) gb rfl
     have g6 := block_cell (j := 6) gb rfl
     have ib := HXa.out _ hT17
     have i0 := block_cell (j := 0) ib rfl
     have i1 := block_cell (j := 1) ib rfl
     have i2 := block_cell (j := 2) ib rfl
     have i3 := block_cell (j := 3) ib rfl
     have i4 := block_cell (j := 4) ib rfl
     have i5 := block_cell (j := 5) ib rfl
     have i6 := block_cell (j := 6) ib rfl
     go_wp2_with fail
     refine (HSr.out _ hT17).mono ?_
     rintro e x18 ⟨rfl, hb⟩
     have hT18 := hTn _ _ hT17 hb
     have HS18 := Lib.hid (HS17.out.below hb)
     clear gb g0 g1 g2 g3 g4 g5 g6 ib i0 i1 i2 i3 i4 i5 i6
     clear hb hT17 HS17
     have mb := HX8.out _ hT18
     have m0 := block_cell (j := 0) mb rfl
     have m1 := block_cell (j := 1) mb rfl
     have m2 := block_cell (j := 2) mb rfl
     have jb := HXb.out _ hT18
     have j0 := block_cell (j := 0) jb rfl
     have j1 := block_cell (j := 1) jb rfl
     have j2 := block_cell (j := 2) jb rfl
     go_wp2_with fail
     refine (HSp.out _ hT18).mono ?_
     rintro e x19 ⟨rfl, hb⟩
     have hT19 := hTn _ _ hT18 hb
     have HS19 := Lib.hid (HS18.out.below hb)
     clear mb m0 m1 m2 jb j0 j1 j2
     clear hb hT18 HS18
     go_wp2_with fail
     refine (HSs.out _ hT19).mono ?_
     rintro e x20 ⟨rfl, hb⟩
     have hT20 := hTn _ _ hT19 hb
     have HS20 := Lib.hid (HS19.out.below hb)
     clear hb hT19 HS19
     go_wp2_with fail
     refine (spoilStore_any N x20 a13 L.length c13 Hl13.out (HS20.out.2 (.rots a13 L.length) (by simp)) HS20.out.1).mono ?_
     rintro e x21 ⟨rfl, hs⟩
     have hT21 := hTall _ ((hTb _ hT20).trans (hs.below.mono HN0.out))
     have HS21 := Lib.hid (HS20.out.spl hs)
     clear hs hT20 HS20
     go_wp2_with fail
     refine (spoilStore_any N x21 a20 (addL on p.objects).length c20 Hl20.out (HS21.out.2 (.rots a20 (addL on p.objects).length) (by simp)) HS21.out.1).mono ?_
     rintro e x22 ⟨rfl, hs⟩
     have hT22 := hTall _ ((hTb _ hT21).trans (hs.below.mono HN0.out))
     have HS22 := Lib.hid (HS21.out.spl hs)
     clear hs hT21 HS21
     go_wp2_with fail
     refine (spoilStore_any N x22 a22 (diffL r.store on).length c22 Hl22.out (HS22.out.2 (.rots a22 (diffL r.store on).length) (by simp)) HS22.out.1).mono ?_
     rintro e x23 ⟨rfl, hs⟩
     have hT23 := hTall _ ((hTb _ hT22).trans (hs.below.mono HN0.out))
     have HS23 := Lib.hid (HS22.out.spl hs)
     clear hs hT22 HS22
     go_wp2_with fail
     refine (spoilStore_any N x23 a24 (partRes r.store [3]).length c24 Hl24.out (HS23.out.2 (.rots a24 (partRes r.store [3]).length) (by simp)) HS23.out.1).mono ?_
     rintro e x24 ⟨rfl, hs⟩
     have hT24 := hTall _ ((hTb _ hT23).trans (hs.below.mono HN0.out))
     have HS24 := Lib.hid (HS23.out.spl hs)
     clear hs hT23 HS23
     obtain ⟨i0, k0, t0, g0, g1, g2, g3⟩ := HS24.out.obj (v2 := (a26, o26.links.length, c26)) (show Sp.box D26 [.int .i64 o26.id, .int .i64 o26.kind, .slice a26 o26.links.length c26, .string o26.text] ∈ _ by simp)
     obtain ⟨i1, k1, t1, h0, h1, h2, h3⟩ := HS24.out.obj (v2 := (a32, o32.links.length, c32)) (show Sp.box D32 [.int .i64 o32.id, .int .i64 o32.kind, .slice a32 o32.links.length c32, .string o32.text] ∈ _ by simp)
     dsimp only at g2 h2
     have hr2 := rots_two (i0 := i0) (k0 := k0) (c0 := c26) (t0 := t0) (i1 := i1) (k1 := k1) (c1 := c32) (t1 := t1) (t := 46) HS24.out.1 (HS24.out.2 (.nums a26 o26.links.length) (by simp)) (HS24.out.2 (.nums a32 o32.links.length) (by simp)) Hl26.out Hl32.out
     have hT25 := hT.alloc _ (.cells #[.int .i64 i0, .int .i64 k0, .slice a26 o26.links.length c26, .string t0, .int .i64 i1, .int .i64 k1, .slice a32 o32.links.length c32, .string t1] 46) hT24
     have HS25 := Lib.hid (HS24.out.below ((Below.refl _ _).alloc (Nat.le_refl _) (.cells #[.int .i64 i0, .int .i64 k0, .slice a26 o26.links.length c26, .string t0, .int .i64 i1, .int .i64 k1, .slice a32 o32.links.length c32, .string t1] 46)))
     go_wp2_with fail
     generalize x24.heap.size = D30 at *
     generalize x24.alloc (.cells #[.int .i64 i0, .int .i64 k0, .slice a26 o26.links.length c26, .string t0, .int .i64 i1, .int .i64 k1, .slice a32 o32.links.length c32, .string t1] 46) = x25 at *
     clear g0 g1 g2 g3 h0 h1 h2 h3 hT24 HS24
     refine (spoilStore_any N x25 (some ⟨D30, 0, none⟩) 2 2 (by omega) hr2 HS25.out.1).mono ?_
     rintro e x26 ⟨rfl, hs⟩
     have hT26 := hTall _ ((hTb _ hT25).trans (hs.below.mono HN0.out))
     have HS26 := Lib.hid (HS25.out.spl hs)
     clear hs hT25 HS25
     clear hr2
     obtain ⟨g, ph, f, g0, g1, g2, g3, g4, g5, g6⟩ := HS26.out.rep (v0 := (a16s, (prepR r p).store.length, c16s)) (v1 := (a16r, (prepR r p).refs.length, c16r)) (v4 := (a16o, (prepR r p).pend.objects.length, c16o)) (v5 := (a16u, (prepR r p).pend.updates.length, c16u)) (show Sp.box D16 [.slice a16s (prepR r p).store.length c16s, .slice a16r (prepR r p).refs.length c16r, .int .i64 (prepR r p).gen, .int .i64 (prepR r p).phase, .slice a16o (prepR r p).pend.objects.length c16o, .slice a16u (prepR r p).pend.updates.length c16u, .bool (prepR r p).pend.force] ∈ _ by simp)
     dsimp only at g0 g1 g4 g5
     go_wp2_with fail
     refine (spoilReplica_any N x26 a16s a16r a16o a16u _ c16s _ c16r _ c16o _ c16u g ph f Hl16s.out Hl16r.out Hl16o.out Hl16u.out (HS26.out.2 (.rots a16s (prepR r p).store.length) (by simp)) (HS26.out.2 (.texts a16r (prepR r p).refs.length 2 0) (by simp)) (HS26.out.2 (.rots a16o (prepR r p).pend.objects.length) (by simp)) (HS26.out.2 (.texts a16u (prepR r p).pend.updates.length 3 0) (by simp)) HS26.out.1).mono ?_
     rintro e x27 ⟨rfl, hs⟩
     have hT27 := hTall _ ((hTb _ hT26).trans (hs.below.mono HN0.out))
     have HS27 := Lib.hid (HS26.out.spl hs)
     clear g0 g1 g2 g3 g4 g5 g6
     clear hs hT26 HS26
     obtain ⟨g, ph, f, g0, g1, g2, g3, g4, g5, g6⟩ := HS27.out.rep (v0 := (a18s, (craR r).store.length, c18s)) (v1 := (a18r, (craR r).refs.length, c18r)) (v4 := (a18o, (craR r).pend.objects.length, c18o)) (v5 := (a18u, (craR r).pend.updates.length, c18u)) (show Sp.box D18 [.slice a18s (craR r).store.length c18s, .slice a18r (craR r).refs.length c18r, .int .i64 (craR r).gen, .int .i64 (craR r).phase, .slice a18o (craR r).pend.objects.length c18o, .slice a18u (craR r).pend.updates.length c18u, .bool (craR r).pend.force] ∈ _ by simp)
     dsimp only at g0 g1 g4 g5
     go_wp2_with fail
     refine (spoilReplica_any N x27 a18s a18r a18o a18u _ c18s _ c18r _ c18o _ c18u g ph f Hl18s.out Hl18r.out Hl18o.out Hl18u.out (HS27.out.2 (.rots a18s (craR r).store.length) (by simp)) (HS27.out.2 (.texts a18r (craR r).refs.length 2 0) (by simp)) (HS27.out.2 (.rots a18o (craR r).pend.objects.length) (by simp)) (HS27.out.2 (.texts a18u (craR r).pend.updates.length 3 0) (by simp)) HS27.out.1).mono ?_
     rintro e x28 ⟨rfl, hs⟩
     have hT28 := hTall _ ((hTb _ hT27).trans (hs.below.mono HN0.out))
     have HS28 := Lib.hid (HS27.out.spl hs)
     clear g0 g1 g2 g3 g4 g5 g6
     clear hs hT27 HS27
     have Htx := Lib.hid (HS28.out.2 (.texts a14 M.length 2 0) (by simp))
     have Hnm := Lib.hid (HS28.out.2 (.nums a28 (needsL on p).length) (by simp))
     have HSz := Lib.hid HS28.out.1
     simp only [Sp.is] at Htx Hnm
     clear HS28
     go_wp2_with fail
     have H0 := Lib.hid (Spl.refl HSz.out)
     go_loopw [35] (fun i wz => ∃ j : Nat, j ≤ M.length ∧ i = .int .i64 j ∧ Hid (Spl N x28 wz)) (fun i _ => M.length - (intOf i).toNat)
     case atStart => exact ⟨0, Nat.zero_le _, rfl, H0⟩
     case round =>
      clear H0
      obtain ⟨j, hj, rfl, HZ⟩ := hrel
      by_cases hlj : j < M.length
      case pos =>
       obtain ⟨b, off, rfl, hb, hz⟩ := (Htx.out.spl HZ.out) (by omega)
       obtain ⟨f0, s, s0⟩ := hz j hlj
       simp only [Nat.add_zero] at f0 s0
       have hl := Hl14.out
       have hi1 : (0 : Int) ≤ (j : Int) := by omega
       have hi2 : (j : Int) < (M.length : Int) := by omega
       have HZ2 := Lib.hid (HZ.out.trans (Spl.set hb s0 (u := .string ⟨#[63]⟩) (.inr (.inr (.inl ⟨_, _, rfl, rfl⟩)))))
       clear hz
       go_wp2_with fail
       go_roundw
       case rel => exact ⟨j + 1, by omega, by go_num, HZ2⟩
       case measure => simp [intOf]; omega
      case neg =>
       obtain rfl : j = M.length := by omega
       go_wp2_with fail
       go_loopw [36] (fun i wz => ∃ j : Nat, j ≤ (needsL on p).length ∧ i = .int .i64 j ∧ Hid (Spl N x28 wz)) (fun i _ => (needsL on p).length - (intOf i).toNat)
       case atStart => exact ⟨0, Nat.zero_le _, rfl, HZ⟩
       case round =>
        clear HZ
        obtain ⟨j, hj, rfl, HZ⟩ := hrel
        by_cases hlj : j < (needsL on p).length
        case pos =>
         obtain ⟨b, off, rfl, hb, hz⟩ := (Hnm.out.spl HZ.out) (by omega)
         obtain ⟨f0, s, s0⟩ := hz j hlj
         have hl := Hl28.out
         have hi1 : (0 : Int) ≤ (j : Int) := by omega
         have hi2 : (j : Int) < ((needsL on p).length : Int) := by omega
         have HZ2 := Lib.hid (HZ.out.trans (Spl.set hb s0 (u := .int .i64 (-7)) (.inr (.inl ⟨_, _, rfl, rfl⟩))))
         clear hz
         go_wp2_with fail
         go_roundw
         case rel => exact ⟨j + 1, by omega, by go_num, HZ2⟩
         case measure => simp [intOf]; omega
        case neg =>
         obtain rfl : j = (needsL on p).length := by omega
         have hTz := hTall _ ((hTb _ hT28).trans (HZ.out.below.mono HN0.out))
         go_wp2_with fail
         go_roundw
         case rel => exact ⟨k + 1, by omega, by go_num, hTz⟩
         case measure => simp [intOf]; omega
end Go.Proofs.YtjdgpgfiomnjkaaGreatDoor
