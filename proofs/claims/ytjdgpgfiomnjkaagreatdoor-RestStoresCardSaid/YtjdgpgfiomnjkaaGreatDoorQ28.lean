
/- StepA: StepA, StepB, StepC. -/
import Derived.Test.YtjdgpgfiomnjkaaGreatDoorQ20
import Derived.Test.YtjdgpgfiomnjkaaGreatDoorQ27
namespace Go.Proofs.YtjdgpgfiomnjkaaGreatDoor
open Go.RowKit
set_option linter.unusedVariables false
set_option linter.unusedSimpArgs false
set_option linter.unusedSectionVars false
variable [Ghost]
def setQ (b : Nat) (v3 v4 v5 v6 : Value) (w : World) : World := (((w.setCell ⟨b, 3, none⟩ v3).setCell ⟨b, 4, none⟩ v4).setCell ⟨b, 5, none⟩ v5).setCell ⟨b, 6, none⟩ v6
theorem setQ_is {b : Nat} {v3 v4 v5 v6 u0 u1 u2 u3 u4 u5 u6 : Value} {t : TypeId} {w : World} (h0 : w.heap[b]? = some (.cells #[u0, u1, u2, u3, u4, u5, u6] t (0, 0))) :
  (setQ b v3 v4 v5 v6 w).heap[b]? = some (.cells #[u0, u1, u2, v3, v4, v5, v6] t (0, 0)) := by
 have s3 : (w.setCell ⟨b, 3, none⟩ v3).heap[b]? = some (.cells #[u0, u1, u2, v3, u4, u5, u6] t (0, 0)) := by have := block_setCell (j := 3) h0 v3; simpa using this
 have s4 : ((w.setCell ⟨b, 3, none⟩ v3).setCell ⟨b, 4, none⟩ v4).heap[b]? = some (.cells #[u0, u1, u2, v3, v4, u5, u6] t (0, 0)) := by have := block_setCell (j := 4) s3 v4; simpa using this
 have s5 : (((w.setCell ⟨b, 3, none⟩ v3).setCell ⟨b, 4, none⟩ v4).setCell ⟨b, 5, none⟩ v5).heap[b]? = some (.cells #[u0, u1, u2, v3, v4, v5, u6] t (0, 0)) := by have := block_setCell (j := 5) s4 v5; simpa using this
 have s6 : ((((w.setCell ⟨b, 3, none⟩ v3).setCell ⟨b, 4, none⟩ v4).setCell ⟨b, 5, none⟩ v5).setCell ⟨b, 6, none⟩ v6).heap[b]? = some (.cells #[u0, u1, u2, v3, v4, v5, v6] t (0, 0)) := by have := block_setCell (j := 6) s5 v6; simpa using this
 exact s6
theorem setQ_upd (b : Nat) (v3 v4 v5 v6 : Value) (w : World) : Upd (fun x => x = b) w (setQ b v3 v4 v5 v6 w) :=
 Upd.setCell (T := fun x => x = b) (Upd.setCell (T := fun x => x = b) (Upd.setCell (T := fun x => x = b) (Upd.setCell (T := fun x => x = b) (Upd.refl (fun x => x = b) w) (fun _ => rfl) v3) (fun _ => rfl) v4) (fun _ => rfl) v5) (fun _ => rfl) v6
def KeepR (P : Nat → Prop) (D : Nat) (w : World) (r : Rep) : Prop :=
 ∃ sa sc ra rc oa oc ua uc, w.heap[D]? = some (.cells #[.slice sa r.store.length sc, .slice ra r.refs.length rc, .int .i64 r.gen, .int .i64 r.phase, .slice oa r.pend.objects.length oc, .slice ua r.pend.updates.length uc, .bool r.pend.force] 120 (0, 0)) ∧
  RepIs P w r (.slice sa r.store.length sc) (.slice ra r.refs.length rc) (.slice oa r.pend.objects.length oc) (.slice ua r.pend.updates.length uc)
theorem KeepR.below {P : Nat → Prop} {D : Nat} {w w' : World} {r : Rep} (h : KeepR P D w r) (hb : Below w.heap.size w w') : KeepR P D w' r := by
 obtain ⟨sa, sc, ra, rc, oa, oc, ua, uc, h1, h2⟩ := h
 exact ⟨sa, sc, ra, rc, oa, oc, ua, uc, blk_below h1 hb, h2.below hb⟩
theorem KeepR.upd {P T : Nat → Prop} {D : Nat} {w w' : World} {r : Rep} (h : KeepR P D w r) (hu : Upd T w w') (hD : ¬ T D) (hP : ∀ b, P b → ¬ T b) : KeepR P D w' r := by
 obtain ⟨sa, sc, ra, rc, oa, oc, ua, uc, h1, h2⟩ := h
 exact ⟨sa, sc, ra, rc, oa, oc, ua, uc, hu.blk h1 hD, RepIs.upd h2 hu hP⟩
theorem KeepR.weaken {P P' : Nat → Prop} {D : Nat} {w : World} {r : Rep} (h : KeepR P D w r) (hP : ∀ b, P b → P' b) : KeepR P' D w r := by
 obtain ⟨sa, sc, ra, rc, oa, oc, ua, uc, h1, h2⟩ := h
 exact ⟨sa, sc, ra, rc, oa, oc, ua, uc, h1, h2.weaken hP⟩
theorem KeepR.lt {P : Nat → Prop} {D : Nat} {w : World} {r : Rep} (h : KeepR P D w r) : D < w.heap.size := let ⟨_, _, _, _, _, _, _, _, h1, _⟩ := h; lt_of_block h1
set_option maxHeartbeats 1000000 in
theorem keeperIdle_any (r : Rep) (P : Nat → Prop) (D : Nat) (w : World) (h : KeepR P D w r) (hP : ∀ b, P b → b ≠ D) :
  Calls Tryz.prog 80 #[.pointer (some ⟨D, 0, none⟩)] w fun e y => e = .returned (.tuple #[]) ∧ KeepR P D y (idleR r) ∧ Upd (fun b => b = D) w y := by
 obtain ⟨sa, sc, ra, rc, oa, oc, ua, uc, hblk, hr⟩ := h
 have HE := Lib.hid (show KeepR P D (setQ D (.int .i64 0) (.slice none 0 0) (.slice none 0 0) (.bool false) w) (idleR r) ∧ Upd (fun b => b = D) w (setQ D (.int .i64 0) (.slice none 0 0) (.slice none 0 0) (.bool false) w) from
  ⟨⟨sa, sc, ra, rc, none, 0, none, 0, setQ_is hblk, ⟨hr.store.upd' (setQ_upd _ _ _ _ _ _) hP, hr.refs.upd (setQ_upd _ _ _ _ _ _) hP, StoreV.nil _ _ _ _ (by omega), MvsV.nil _ _ _ _ (by omega), hr.gen, by show I64 0; unfold I64; decide⟩⟩, setQ_upd _ _ _ _ _ _⟩)
 clear hr
 have g0 := block_cell (j := 0) hblk rfl
 have g1 := block_cell (j := 1) hblk rfl
 have g2 := block_cell (j := 2) hblk rfl
 have g3 := block_cell (j := 3) hblk rfl
 have g4 := block_cell (j := 4) hblk rfl
 have g5 := block_cell (j := 5) hblk rfl
 have g6 := block_cell (j := 6) hblk rfl
 have f0 := block_free (j := 0) hblk
 have f1 := block_free (j := 1) hblk
 have f2 := block_free (j := 2) hblk
 have f3 := block_free (j := 3) hblk
 have f4 := block_free (j := 4) hblk
 have f5 := block_free (j := 5) hblk
 have f6 := block_free (j := 6) hblk
 clear hblk
 go_enter Tryz.func80, Tryz.ntmps80
 go_wp2_with fail
 change bodyPost _ _ _ _ _ (setQ D (.int .i64 0) (.slice none 0 0) (.slice none 0 0) (.bool false) w)
 go_end0
 exact ⟨rfl, HE.out.1, HE.out.2⟩
def DoesK (g : Nat) (cs : Array Value) (w : World) (T : Nat → Prop) (K : World → Prop) (r : Rep) (E : Int) (R : Rep) : Prop :=
 ∀ (x : World) (D B : Nat), Below w.heap.size w x → w.heap.size ≤ B → B ≤ D → KeepR (fun b => B ≤ b ∧ b ≠ D) D x r →
  Calls Tryz.prog g (#[.pointer (some ⟨D, 0, none⟩)] ++ cs) x fun e y => e = .returned (.int .i64 E) ∧ (E = 0 → KeepR (fun b => B ≤ b ∧ b ≠ D) D y R) ∧ Upd (fun b => b = D ∨ T b) x y ∧ K y
def inC (r : Rep) (ph E : Int) : Int := if inE r ph ≠ 0 then inE r ph else E
def inR (r : Rep) (ph E : Int) (R : Rep) : Rep := if inC r ph E = 0 then R else rep0
set_option maxRecDepth 100000 in
set_option maxHeartbeats 4000000 in
theorem in_any (r : Rep) (ph E : Int) (R : Rep) (g : Nat) (cs : Array Value) (T : Nat → Prop) (K : World → Prop) (sv rv ov uv : Value) (S : Nat → Prop) (w : World) (h : RepIs S w r sv rv ov uv) (hT : ∀ b, T b → b < w.heap.size)
  (hK : ∀ y z, K y → Upd (fun b => w.heap.size ≤ b) y z → K z) (eg : ∀ args w, (callFunc g args).run Tryz.prog w = .ok (.enter g args) w) (hd : inE r ph = 0 → DoesK g cs w T K r E R) :
  Calls Tryz.prog 76 #[repV r sv rv ov uv, .int .i64 ph, .func (.func g) #[] cs] w fun e w' => ∃ svt rvt ovt uvt, e = .returned (.tuple #[repV (inR r ph E R) svt rvt ovt uvt, .int .i64 (inC r ph E)]) ∧
   RepIs (fun b => w.heap.size ≤ b) w' (inR r ph E R) svt rvt ovt uvt ∧ Upd T w w' ∧ (inE r ph = 0 → K w') ∧ (inE r ph ≠ 0 → Below w.heap.size w w') := by
 have H := Lib.hid h
 have HT := Lib.hid hT
 have HK := Lib.hid hK
 have HD := Lib.hid hd
 obtain ⟨sa, sc, rfl⟩ := h.store.vshape
 obtain ⟨⟨ra, rc⟩, rfl⟩ := h.refs.shape
 obtain ⟨oa, oc, rfl⟩ := h.objs.vshape
 obtain ⟨⟨ua, uc⟩, rfl⟩ := h.upds.shape
 clear h hT hK hd
 simp only [repV]
 obtain ⟨Q, hQ, hQ1, HB0⟩ := cls_allocs w [.cells #[.slice sa r.store.length sc, .slice ra r.refs.length rc, .int .i64 r.gen, .int .i64 r.phase, .slice oa r.pend.objects.length oc, .slice ua r.pend.updates.length uc, .bool r.pend.force] 28, .cells #[.slice none 0 0, .slice none 0 0, .int .i64 0, .int .i64 0, .slice none 0 0, .slice none 0 0, .bool false] 28]
 simp only [List.foldl] at hQ1
 have hQn := hQ.next
 have hQb := hQ.below
 have HZ := Lib.hid (fun x (hx : In Q x) => show x.heap[w.heap.size + 1]? = some (.cells #[.slice none 0 0, .slice none 0 0, .int .i64 0, .int .i64 0, .slice none 0 0, .slice none 0 0, .bool false] 28 (0, 0)) from HB0 x hx 1 _ rfl)
 have HC := Lib.hid (fun x (hx : In Q x) => repCheck_any r _ _ _ _ _ x (H.out.below (hQb _ hx)))
 have HO := Lib.hid (fun x (hx : In Q x) => repOwn_any r _ _ _ _ _ x (H.out.below (hQb _ hx)))
 simp only [repV] at HC HO
 have y0 := fun x (hx : In Q x) => block_cell (j := 0) (HB0 x hx 0 _ rfl) rfl
 have y1 := fun x (hx : In Q x) => block_cell (j := 1) (HB0 x hx 0 _ rfl) rfl
 have y2 := fun x (hx : In Q x) => block_cell (j := 2) (HB0 x hx 0 _ rfl) rfl
 have y3 := fun x (hx : In Q x) => block_cell (j := 3) (HB0 x hx 0 _ rfl) rfl
 have y4 := fun x (hx : In Q x) => block_cell (j := 4) (HB0 x hx 0 _ rfl) rfl
 have y5 := fun x (hx : In Q x) => block_cell (j := 5) (HB0 x hx 0 _ rfl) rfl
 have y6 := fun x (hx : In Q x) => block_cell (j := 6) (HB0 x hx 0 _ rfl) rfl
 simp only [Nat.add_zero] at y0 y1 y2 y3 y4 y5 y6
 have Hsz := Lib.hid (fun x (hx : In Q x) => show w.heap.size + 2 ≤ x.heap.size from lt_of_block (HZ.out x hx))
 clear HB0
 by_cases hc : repCheck r = 0
 case neg =>
  have HNE := Lib.hid (show inE r ph ≠ 0 by rw [inE_wrong hc]; exact hc)
  have HCC := Lib.hid (show inC r ph E = repCheck r by unfold inC; rw [if_pos HNE.out]; exact inE_wrong hc)
  have HRR := Lib.hid (show inR r ph E R = rep0 by unfold inR; rw [HCC.out, if_neg hc])
  have q1 : (repCheck r == 0) = false := by simpa using hc
  have q2 : (repCheck r != 0) = true := by simpa using hc
  clear hc HD
  generalize repCheck r = c at *
  go_enter Tryz.func76, Tryz.ntmps76
  have c0 := y0 _ hQ1
  have c1 := y1 _ hQ1
  have c2 := y2 _ hQ1
  have c3 := y3 _ hQ1
  have c4 := y4 _ hQ1
  have c5 := y5 _ hQ1
  have c6 := y6 _ hQ1
  go_wp2_with fail
  refine (HC.out _ hQ1).mono ?_
  rintro e x1 ⟨rfl, hb1⟩
  have hQ2 := hQn _ _ hQ1 hb1
  clear hb1 c0 c1 c2 c3 c4 c5 c6
  have a0 := y0 _ hQ2
  have a1 := y1 _ hQ2
  have a2 := y2 _ hQ2
  have a3 := y3 _ hQ2
  have a4 := y4 _ hQ2
  have a5 := y5 _ hQ2
  have a6 := y6 _ hQ2
  go_wp2_with fail
  refine (HO.out _ hQ2).mono ?_
  rintro e x2 ⟨sv2, rv2, ov2, uv2, rfl, hr2, hb2⟩
  have hQ3 := hQn _ _ hQ2 hb2
  obtain ⟨sa2, sc2, rfl⟩ := hr2.store.vshape
  obtain ⟨⟨ra2, rc2⟩, rfl⟩ := hr2.refs.shape
  obtain ⟨oa2, oc2, rfl⟩ := hr2.objs.vshape
  obtain ⟨⟨ua2, uc2⟩, rfl⟩ := hr2.upds.shape
  clear hb2 hr2 a0 a1 a2 a3 a4 a5 a6
  simp only [repV]
  have hQ4 := hQ.alloc _ (.cells #[.slice sa2 r.store.length sc2, .slice ra2 r.refs.length rc2, .int .i64 r.gen, .int .i64 r.phase, .slice oa2 r.pend.objects.length oc2, .slice ua2 r.pend.updates.length uc2, .bool r.pend.force] 120) hQ3
  have hblk := HZ.out _ hQ4
  have g0 := block_cell (j := 0) hblk rfl
  have g1 := block_cell (j := 1) hblk rfl
  have g2 := block_cell (j := 2) hblk rfl
  have g3 := block_cell (j := 3) hblk rfl
  have g4 := block_cell (j := 4) hblk rfl
  have g5 := block_cell (j := 5) hblk rfl
  have g6 := block_cell (j := 6) hblk rfl
  have f0 := block_free (j := 0) hblk
  have f1 := block_free (j := 1) hblk
  have f2 := block_free (j := 2) hblk
  have f3 := block_free (j := 3) hblk
  have f4 := block_free (j := 4) hblk
  have f5 := block_free (j := 5) hblk
  have f6 := block_free (j := 6) hblk
  have HW := Lib.hid (set7_is (v0 := .slice none 0 0) (v1 := .slice none 0 0) (v2 := .int .i64 0) (v3 := .int .i64 0) (v4 := .slice none 0 0) (v5 := .slice none 0 0) (v6 := .bool false) hblk)
  have HU := Lib.hid (set7_upd (w.heap.size + 1) (.slice none 0 0) (.slice none 0 0) (.int .i64 0) (.int .i64 0) (.slice none 0 0) (.slice none 0 0) (.bool false) (x2.alloc (.cells #[.slice sa2 r.store.length sc2, .slice ra2 r.refs.length rc2, .int .i64 r.gen, .int .i64 r.phase, .slice oa2 r.pend.objects.length oc2, .slice ua2 r.pend.updates.length uc2, .bool r.pend.force] 120)))
  have HB4 := Lib.hid (hQb _ hQ4)
  clear hblk
  go_wp2_with fail
  change bodyPost _ _ _ _ _ (set7 (w.heap.size + 1) (.slice none 0 0) (.slice none 0 0) (.int .i64 0) (.int .i64 0) (.slice none 0 0) (.slice none 0 0) (.bool false) (x2.alloc (.cells #[.slice sa2 r.store.length sc2, .slice ra2 r.refs.length rc2, .int .i64 r.gen, .int .i64 r.phase, .slice oa2 r.pend.objects.length oc2, .slice ua2 r.pend.updates.length uc2, .bool r.pend.force] 120)))
  generalize x2.alloc (.cells #[.slice sa2 r.store.length sc2, .slice ra2 r.refs.length rc2, .int .i64 r.gen, .int .i64 r.phase, .slice oa2 r.pend.objects.length oc2, .slice ua2 r.pend.updates.length uc2, .bool r.pend.force] 120) = x3 at *
  generalize set7 (w.heap.size + 1) (.slice none 0 0) (.slice none 0 0) (.int .i64 0) (.int .i64 0) (.slice none 0 0) (.slice none 0 0) (.bool false) x3 = x4 at *
  have k0 := block_cell (j := 0) HW.out rfl
  have k1 := block_cell (j := 1) HW.out rfl
  have k2 := block_cell (j := 2) HW.out rfl
  have k3 := block_cell (j := 3) HW.out rfl
  have k4 := block_cell (j := 4) HW.out rfl
  have k5 := block_cell (j := 5) HW.out rfl
  have k6 := block_cell (j := 6) HW.out rfl
  refine bodyPost_ret (v := .tuple #[.agg #[.slice none 0 0, .slice none 0 0, .int .i64 0, .int .i64 0, .slice none 0 0, .slice none 0 0, .bool false], .int .i64 c]) (by simp [results, Tryz.results76, go_sem]; simp [k0, k1, k2, k3, k4, k5, k6] <;> rfl) rfl ?_
  have hs := HB4.out.size
  have hbe : Below w.heap.size w x4 := HB4.out.trans (HU.out.below (B := w.heap.size) hs (fun b hb => by omega))
  refine ⟨.slice none 0 0, .slice none 0 0, .slice none 0 0, .slice none 0 0, by rw [HRR.out, HCC.out]; rfl, by rw [HRR.out]; exact rep0_is _ _, ?_, fun h => absurd h HNE.out, fun _ => hbe⟩
  exact ⟨hbe.os, hbe.tape, hbe.output, hbe.size, fun b hb _ => hbe.block b hb⟩
 rw [hc] at HC
 by_cases hp : r.phase = ph
 case neg =>
  have HIE := Lib.hid (inE_bad hc hp)
  have HNE := Lib.hid (show inE r ph ≠ 0 by rw [HIE.out]; decide)
  have HCC := Lib.hid (show inC r ph E = 4 by unfold inC; rw [if_pos HNE.out]; exact HIE.out)
  have HRR := Lib.hid (show inR r ph E R = rep0 by unfold inR; rw [HCC.out]; rfl)
  have q1 : (r.phase != ph) = true := by simpa using hp
  clear hc hp HD HIE
  go_enter Tryz.func76, Tryz.ntmps76
  have c0 := y0 _ hQ1
  have c1 := y1 _ hQ1
  have c2 := y2 _ hQ1
  have c3 := y3 _ hQ1
  have c4 := y4 _ hQ1
  have c5 := y5 _ hQ1
  have c6 := y6 _ hQ1
  go_wp2_with fail
  refine (HC.out _ hQ1).mono ?_
  rintro e x1 ⟨rfl, hb1⟩
  have hQ2 := hQn _ _ hQ1 hb1
  clear hb1 c0 c1 c2 c3 c4 c5 c6
  have a0 := y0 _ hQ2
  have a1 := y1 _ hQ2
  have a2 := y2 _ hQ2
  have a3 := y3 _ hQ2
  have a4 := y4 _ hQ2
  have a5 := y5 _ hQ2
  have a6 := y6 _ hQ2
  go_wp2_with fail
  refine (HO.out _ hQ2).mono ?_
  rintro e x2 ⟨sv2, rv2, ov2, uv2, rfl, hr2, hb2⟩
  have hQ3 := hQn _ _ hQ2 hb2
  obtain ⟨sa2, sc2, rfl⟩ := hr2.store.vshape
  obtain ⟨⟨ra2, rc2⟩, rfl⟩ := hr2.refs.shape
  obtain ⟨oa2, oc2, rfl⟩ := hr2.objs.vshape
  obtain ⟨⟨ua2, uc2⟩, rfl⟩ := hr2.upds.shape
  clear hb2 hr2 a0 a1 a2 a3 a4 a5 a6
  simp only [repV]
  have hQ4 := hQ.alloc _ (.cells #[.slice sa2 r.store.length sc2, .slice ra2 r.refs.length rc2, .int .i64 r.gen, .int .i64 r.phase, .slice oa2 r.pend.objects.length oc2, .slice ua2 r.pend.updates.length uc2, .bool r.pend.force] 120) hQ3
  have hblk := HZ.out _ hQ4
  have g0 := block_cell (j := 0) hblk rfl
  have g1 := block_cell (j := 1) hblk rfl
  have g2 := block_cell (j := 2) hblk rfl
  have g3 := block_cell (j := 3) hblk rfl
  have g4 := block_cell (j := 4) hblk rfl
  have g5 := block_cell (j := 5) hblk rfl
  have g6 := block_cell (j := 6) hblk rfl
  have f0 := block_free (j := 0) hblk
  have f1 := block_free (j := 1) hblk
  have f2 := block_free (j := 2) hblk
  have f3 := block_free (j := 3) hblk
  have f4 := block_free (j := 4) hblk
  have f5 := block_free (j := 5) hblk
  have f6 := block_free (j := 6) hblk
  have HW := Lib.hid (set7_is (v0 := .slice none 0 0) (v1 := .slice none 0 0) (v2 := .int .i64 0) (v3 := .int .i64 0) (v4 := .slice none 0 0) (v5 := .slice none 0 0) (v6 := .bool false) hblk)
  have HU := Lib.hid (set7_upd (w.heap.size + 1) (.slice none 0 0) (.slice none 0 0) (.int .i64 0) (.int .i64 0) (.slice none 0 0) (.slice none 0 0) (.bool false) (x2.alloc (.cells #[.slice sa2 r.store.length sc2, .slice ra2 r.refs.length rc2, .int .i64 r.gen, .int .i64 r.phase, .slice oa2 r.pend.objects.length oc2, .slice ua2 r.pend.updates.length uc2, .bool r.pend.force] 120)))
  have HB4 := Lib.hid (hQb _ hQ4)
  clear hblk
  go_wp2_with fail
  change bodyPost _ _ _ _ _ (set7 (w.heap.size + 1) (.slice none 0 0) (.slice none 0 0) (.int .i64 0) (.int .i64 0) (.slice none 0 0) (.slice none 0 0) (.bool false) (x2.alloc (.cells #[.slice sa2 r.store.length sc2, .slice ra2 r.refs.length rc2, .int .i64 r.gen, .int .i64 r.phase, .slice oa2 r.pend.objects.length oc2, .slice ua2 r.pend.updates.length uc2, .bool r.pend.force] 120)))
  generalize x2.alloc (.cells #[.slice sa2 r.store.length sc2, .slice ra2 r.refs.length rc2, .int .i64 r.gen, .int .i64 r.phase, .slice oa2 r.pend.objects.length oc2, .slice ua2 r.pend.updates.length uc2, .bool r.pend.force] 120) = x3 at *
  generalize set7 (w.heap.size + 1) (.slice none 0 0) (.slice none 0 0) (.int .i64 0) (.int .i64 0) (.slice none 0 0) (.slice none 0 0) (.bool false) x3 = x4 at *
  have k0 := block_cell (j := 0) HW.out rfl
  have k1 := block_cell (j := 1) HW.out rfl
  have k2 := block_cell (j := 2) HW.out rfl
  have k3 := block_cell (j := 3) HW.out rfl
  have k4 := block_cell (j := 4) HW.out rfl
  have k5 := block_cell (j := 5) HW.out rfl
  have k6 := block_cell (j := 6) HW.out rfl
  refine bodyPost_ret (v := .tuple #[.agg #[.slice none 0 0, .slice none 0 0, .int .i64 0, .int .i64 0, .slice none 0 0, .slice none 0 0, .bool false], .int .i64 4]) (by simp [results, Tryz.results76, go_sem]; simp [k0, k1, k2, k3, k4, k5, k6] <;> rfl) rfl ?_
  have hs := HB4.out.size
  have hbe : Below w.heap.size w x4 := HB4.out.trans (HU.out.below (B := w.heap.size) hs (fun b hb => by omega))
  refine ⟨.slice none 0 0, .slice none 0 0, .slice none 0 0, .slice none 0 0, by rw [HRR.out, HCC.out]; rfl, by rw [HRR.out]; exact rep0_is _ _, ?_, fun h => absurd h HNE.out, fun _ => hbe⟩
  exact ⟨hbe.os, hbe.tape, hbe.output, hbe.size, fun b hb _ => hbe.block b hb⟩
 case pos =>
  have HIE := Lib.hid (inE_ok hc hp)
  have HCC := Lib.hid (show inC r ph E = E by unfold inC; rw [if_neg (by simpa using HIE.out)])
  have HRR := Lib.hid (show inR r ph E R = if E = 0 then R else rep0 by unfold inR; rw [HCC.out])
  have q1 : (r.phase != ph) = false := by simpa using hp
  clear hc hp
  go_enter Tryz.func76, Tryz.ntmps76
  have c0 := y0 _ hQ1
  have c1 := y1 _ hQ1
  have c2 := y2 _ hQ1
  have c3 := y3 _ hQ1
  have c4 := y4 _ hQ1
  have c5 := y5 _ hQ1
  have c6 := y6 _ hQ1
  go_wp2_with fail
  refine (HC.out _ hQ1).mono ?_
  rintro e x1 ⟨rfl, hb1⟩
  have hQ2 := hQn _ _ hQ1 hb1
  clear hb1 c0 c1 c2 c3 c4 c5 c6
  have a0 := y0 _ hQ2
  have a1 := y1 _ hQ2
  have a2 := y2 _ hQ2
  have a3 := y3 _ hQ2
  have a4 := y4 _ hQ2
  have a5 := y5 _ hQ2
  have a6 := y6 _ hQ2
  go_wp2_with fail
  refine (HO.out _ hQ2).mono ?_
  rintro e x2 ⟨sv2, rv2, ov2, uv2, rfl, hr2, hb2⟩
  have hQ3 := hQn _ _ hQ2 hb2
  obtain ⟨sa2, sc2, rfl⟩ := hr2.store.vshape
  obtain ⟨⟨ra2, rc2⟩, rfl⟩ := hr2.refs.shape
  obtain ⟨oa2, oc2, rfl⟩ := hr2.objs.vshape
  obtain ⟨⟨ua2, uc2⟩, rfl⟩ := hr2.upds.shape
  clear a0 a1 a2 a3 a4 a5 a6
  have hQ4 := hQ.alloc _ (.cells #[.slice sa2 r.store.length sc2, .slice ra2 r.refs.length rc2, .int .i64 r.gen, .int .i64 r.phase, .slice oa2 r.pend.objects.length oc2, .slice ua2 r.pend.updates.length uc2, .bool r.pend.force] 120) hQ3
  have hs2 := Hsz.out _ hQ2
  have hs3 := hb2.size
  have hkp : KeepR (fun b => w.heap.size + 2 ≤ b ∧ b ≠ x2.heap.size) x2.heap.size (x2.alloc (.cells #[.slice sa2 r.store.length sc2, .slice ra2 r.refs.length rc2, .int .i64 r.gen, .int .i64 r.phase, .slice oa2 r.pend.objects.length oc2, .slice ua2 r.pend.updates.length uc2, .bool r.pend.force] 120)) r := ⟨_, _, _, _, _, _, _, _, heap_alloc_new x2 _, (RepIs.lt hr2).below ((Below.refl _ _).alloc (Nat.le_refl _) _) |>.weaken fun b hb => ⟨by omega, by omega⟩⟩
  have HDo := Lib.hid (HD.out HIE.out _ x2.heap.size (w.heap.size + 2) (hQb _ hQ4) (by omega) (by omega) hkp)
  have HZ4 := Lib.hid (HZ.out _ hQ4)
  have HB4 := Lib.hid (hQb _ hQ4)
  have HDs := Lib.hid (show w.heap.size + 2 ≤ x2.heap.size by omega)
  clear hb2 hr2 hkp HD HO HC
  simp only [repV]
  go_wp2_with fail
  refine HDo.out.mono ?_
  rintro e y ⟨rfl, hk, hu, hKy⟩
  have hzy : y.heap[w.heap.size + 1]? = some (.cells #[.slice none 0 0, .slice none 0 0, .int .i64 0, .int .i64 0, .slice none 0 0, .slice none 0 0, .bool false] 28 (0, 0)) := hu.blk HZ4.out (fun h => h.elim (fun e => by have := HDs.out; omega) (fun e => by have := HT.out _ e; omega))
  have HUy := Lib.hid (show Upd T w y from (Upd.trans (⟨HB4.out.os, HB4.out.tape, HB4.out.output, HB4.out.size, fun b hb _ => HB4.out.block b hb⟩ : Upd T w _) hu (fun b hb ht => ht.elim (fun e => by have := HDs.out; omega) (fun e => e))))
  have HKy := Lib.hid hKy
  have Hk := Lib.hid hk
  have hsy := HUy.out.size
  have HDl := Lib.hid HDs.out
  clear hKy hu HB4 HZ4 hk hQ4 hQ3 hQ2 hQ1 HDo
  generalize x2.heap.size = D at *
  by_cases he : E = 0
  case neg =>
   have q2 : (E != 0) = true := by simpa using he
   have HN := Lib.hid he
   clear he Hk
   have HW := Lib.hid (set7_is (v0 := .slice none 0 0) (v1 := .slice none 0 0) (v2 := .int .i64 0) (v3 := .int .i64 0) (v4 := .slice none 0 0) (v5 := .slice none 0 0) (v6 := .bool false) hzy)
   have HU := Lib.hid (set7_upd (w.heap.size + 1) (.slice none 0 0) (.slice none 0 0) (.int .i64 0) (.int .i64 0) (.slice none 0 0) (.slice none 0 0) (.bool false) y)
   have g0 := block_cell (j := 0) hzy rfl
   have g1 := block_cell (j := 1) hzy rfl
   have g2 := block_cell (j := 2) hzy rfl
   have g3 := block_cell (j := 3) hzy rfl
   have g4 := block_cell (j := 4) hzy rfl
   have g5 := block_cell (j := 5) hzy rfl
   have g6 := block_cell (j := 6) hzy rfl
   have f0 := block_free (j := 0) hzy
   have f1 := block_free (j := 1) hzy
   have f2 := block_free (j := 2) hzy
   have f3 := block_free (j := 3) hzy
   have f4 := block_free (j := 4) hzy
   have f5 := block_free (j := 5) hzy
   have f6 := block_free (j := 6) hzy
   clear hzy
   go_wp2_with fail
   change bodyPost _ _ _ _ _ (set7 (w.heap.size + 1) (.slice none 0 0) (.slice none 0 0) (.int .i64 0) (.int .i64 0) (.slice none 0 0) (.slice none 0 0) (.bool false) y)
   generalize set7 (w.heap.size + 1) (.slice none 0 0) (.slice none 0 0) (.int .i64 0) (.int .i64 0) (.slice none 0 0) (.slice none 0 0) (.bool false) y = z at *
   have k0 := block_cell (j := 0) HW.out rfl
   have k1 := block_cell (j := 1) HW.out rfl
   have k2 := block_cell (j := 2) HW.out rfl
   have k3 := block_cell (j := 3) HW.out rfl
   have k4 := block_cell (j := 4) HW.out rfl
   have k5 := block_cell (j := 5) HW.out rfl
   have k6 := block_cell (j := 6) HW.out rfl
   refine bodyPost_ret (v := .tuple #[.agg #[.slice none 0 0, .slice none 0 0, .int .i64 0, .int .i64 0, .slice none 0 0, .slice none 0 0, .bool false], .int .i64 E]) (by simp [results, Tryz.results76, go_sem]; simp [k0, k1, k2, k3, k4, k5, k6] <;> rfl) rfl ?_
   have hKz := HK.out _ _ HKy.out (HU.out.weaken (T' := fun b => w.heap.size ≤ b) fun b _ hb => by omega)
   have hUz : Upd T w z := HUy.out.trans HU.out (fun b hb e => by omega)
   refine ⟨.slice none 0 0, .slice none 0 0, .slice none 0 0, .slice none 0 0, by rw [HRR.out, HCC.out, if_neg HN.out]; try rfl, by rw [HRR.out, if_neg HN.out]; exact rep0_is _ _, hUz, fun _ => hKz, fun h => absurd HIE.out h⟩
  case pos =>
   subst he
   obtain ⟨sa5, sc5, ra5, rc5, oa5, oc5, ua5, uc5, hb5, hr5⟩ := Hk.out rfl
   have Hr5 := Lib.hid hr5
   clear hr5 Hk
   have p0 := block_cell (j := 0) hb5 rfl
   have p1 := block_cell (j := 1) hb5 rfl
   have p2 := block_cell (j := 2) hb5 rfl
   have p3 := block_cell (j := 3) hb5 rfl
   have p4 := block_cell (j := 4) hb5 rfl
   have p5 := block_cell (j := 5) hb5 rfl
   have p6 := block_cell (j := 6) hb5 rfl
   clear hb5
   have HW := Lib.hid (set7_is (v0 := .slice sa5 R.store.length sc5) (v1 := .slice ra5 R.refs.length rc5) (v2 := .int .i64 R.gen) (v3 := .int .i64 R.phase) (v4 := .slice oa5 R.pend.objects.length oc5) (v5 := .slice ua5 R.pend.updates.length uc5) (v6 := .bool R.pend.force) hzy)
   have HU := Lib.hid (set7_upd (w.heap.size + 1) (.slice sa5 R.store.length sc5) (.slice ra5 R.refs.length rc5) (.int .i64 R.gen) (.int .i64 R.phase) (.slice oa5 R.pend.objects.length oc5) (.slice ua5 R.pend.updates.length uc5) (.bool R.pend.force) y)
   have g0 := block_cell (j := 0) hzy rfl
   have g1 := block_cell (j := 1) hzy rfl
   have g2 := block_cell (j := 2) hzy rfl
   have g3 := block_cell (j := 3) hzy rfl
   have g4 := block_cell (j := 4) hzy rfl
   have g5 := block_cell (j := 5) hzy rfl
   have g6 := block_cell (j := 6) hzy rfl
   have f0 := block_free (j := 0) hzy
   have f1 := block_free (j := 1) hzy
   have f2 := block_free (j := 2) hzy
   have f3 := block_free (j := 3) hzy
   have f4 := block_free (j := 4) hzy
   have f5 := block_free (j := 5) hzy
   have f6 := block_free (j := 6) hzy
   clear hzy
   go_wp2_with fail
   change bodyPost _ _ _ _ _ (set7 (w.heap.size + 1) (.slice sa5 R.store.length sc5) (.slice ra5 R.refs.length rc5) (.int .i64 R.gen) (.int .i64 R.phase) (.slice oa5 R.pend.objects.length oc5) (.slice ua5 R.pend.updates.length uc5) (.bool R.pend.force) y)
   generalize set7 (w.heap.size + 1) (.slice sa5 R.store.length sc5) (.slice ra5 R.refs.length rc5) (.int .i64 R.gen) (.int .i64 R.phase) (.slice oa5 R.pend.objects.length oc5) (.slice ua5 R.pend.updates.length uc5) (.bool R.pend.force) y = z at *
   have k0 := block_cell (j := 0) HW.out rfl
   have k1 := block_cell (j := 1) HW.out rfl
   have k2 := block_cell (j := 2) HW.out rfl
   have k3 := block_cell (j := 3) HW.out rfl
   have k4 := block_cell (j := 4) HW.out rfl
   have k5 := block_cell (j := 5) HW.out rfl
   have k6 := block_cell (j := 6) HW.out rfl
   refine bodyPost_ret (v := .tuple #[.agg #[.slice sa5 R.store.length sc5, .slice ra5 R.refs.length rc5, .int .i64 R.gen, .int .i64 R.phase, .slice oa5 R.pend.objects.length oc5, .slice ua5 R.pend.updates.length uc5, .bool R.pend.force], .int .i64 0]) (by simp [results, Tryz.results76, go_sem]; simp [k0, k1, k2, k3, k4, k5, k6] <;> rfl) rfl ?_
   have hKz := HK.out _ _ HKy.out (HU.out.weaken (T' := fun b => w.heap.size ≤ b) fun b _ hb => by omega)
   have hUz : Upd T w z := HUy.out.trans HU.out (fun b hb e => by omega)
   refine ⟨.slice sa5 R.store.length sc5, .slice ra5 R.refs.length rc5, .slice oa5 R.pend.objects.length oc5, .slice ua5 R.pend.updates.length uc5, by rw [HRR.out, HCC.out, if_pos (by trivial)]; try rfl, by rw [HRR.out, if_pos (by trivial)]; exact (RepIs.upd Hr5.out HU.out (fun b hb e => by omega)).weaken fun b hb => by omega, hUz, fun _ => hKz, fun h => absurd HIE.out h⟩
end Go.Proofs.YtjdgpgfiomnjkaaGreatDoor
namespace Go.Proofs.YtjdgpgfiomnjkaaGreatDoor
open Go.RowKit
set_option linter.unusedVariables false
set_option linter.unusedSimpArgs false
set_option linter.unusedSectionVars false
variable [Ghost]
theorem upd_none {w w' : World} (h : Below w.heap.size w w') : Upd (fun _ => False) w w' := ⟨h.os, h.tape, h.output, h.size, fun b hb _ => h.block b hb⟩
theorem below_none {w w' : World} (h : Upd (fun _ => False) w w') : Below w.heap.size w w' := ⟨h.os, h.tape, h.output, h.size, fun b hb => h.block b hb (fun h => h)⟩
def setG (b : Nat) (v0 v1 v2 : Value) (w : World) : World := ((w.setCell ⟨b, 0, none⟩ v0).setCell ⟨b, 1, none⟩ v1).setCell ⟨b, 2, none⟩ v2
theorem setG_is {b : Nat} {v0 v1 v2 u0 u1 u2 u3 u4 u5 u6 : Value} {t : TypeId} {w : World} (h0 : w.heap[b]? = some (.cells #[u0, u1, u2, u3, u4, u5, u6] t (0, 0))) :
  (setG b v0 v1 v2 w).heap[b]? = some (.cells #[v0, v1, v2, u3, u4, u5, u6] t (0, 0)) := by
 have s0 : (w.setCell ⟨b, 0, none⟩ v0).heap[b]? = some (.cells #[v0, u1, u2, u3, u4, u5, u6] t (0, 0)) := by have := block_setCell (j := 0) h0 v0; simpa using this
 have s1 : ((w.setCell ⟨b, 0, none⟩ v0).setCell ⟨b, 1, none⟩ v1).heap[b]? = some (.cells #[v0, v1, u2, u3, u4, u5, u6] t (0, 0)) := by have := block_setCell (j := 1) s0 v1; simpa using this
 have s2 : (((w.setCell ⟨b, 0, none⟩ v0).setCell ⟨b, 1, none⟩ v1).setCell ⟨b, 2, none⟩ v2).heap[b]? = some (.cells #[v0, v1, v2, u3, u4, u5, u6] t (0, 0)) := by have := block_setCell (j := 2) s1 v2; simpa using this
 exact s2
theorem setG_upd (b : Nat) (v0 v1 v2 : Value) (w : World) : Upd (fun x => x = b) w (setG b v0 v1 v2 w) :=
 Upd.setCell (T := fun x => x = b) (Upd.setCell (T := fun x => x = b) (Upd.setCell (T := fun x => x = b) (Upd.refl (fun x => x = b) w) (fun _ => rfl) v0) (fun _ => rfl) v1) (fun _ => rfl) v2
set_option maxRecDepth 100000 in
set_option maxHeartbeats 4000000 in
theorem commit_any (r : Rep) (P : Nat → Prop) (D : Nat) (w : World) (h : KeepR P D w r) (hP : ∀ b, P b → b ≠ D) (hR : RightR r) (hph : r.phase ≠ 0) :
  Calls Tryz.prog 118 #[.pointer (some ⟨D, 0, none⟩)] w fun e y => e = .returned (.int .i64 (commE r)) ∧ (commE r = 0 → KeepR (fun b => P b ∨ w.heap.size ≤ b) D y (doneR r r.pend)) ∧ Upd (fun b => b = D) w y := by
 have hDw := h.lt
 obtain ⟨sa, sc, ra, rc, oa, oc, ua, uc, hblk, hr⟩ := h
 obtain ⟨Q, hQ, hQ1, _⟩ := cls_plain w
 have hQb := hQ.below
 have hQn := hQ.next
 have HK := Lib.hid (fun x (hx : In Q x) => blk_below hblk (hQb _ hx))
 have y0 := fun x (hx : In Q x) => block_cell (j := 0) (blk_below hblk (hQb _ hx)) rfl
 have y1 := fun x (hx : In Q x) => block_cell (j := 1) (blk_below hblk (hQb _ hx)) rfl
 have y2 := fun x (hx : In Q x) => block_cell (j := 2) (blk_below hblk (hQb _ hx)) rfl
 have y3 := fun x (hx : In Q x) => block_cell (j := 3) (blk_below hblk (hQb _ hx)) rfl
 have y4 := fun x (hx : In Q x) => block_cell (j := 4) (blk_below hblk (hQb _ hx)) rfl
 have y5 := fun x (hx : In Q x) => block_cell (j := 5) (blk_below hblk (hQb _ hx)) rfl
 have y6 := fun x (hx : In Q x) => block_cell (j := 6) (blk_below hblk (hQb _ hx)) rfl
 have HT := Lib.hid (fun x (hx : In Q x) => pushRawF_any r r.pend _ _ _ _ _ _ _ _ _ _ x (hr.store.below (hQb _ hx)) (hr.refs.below (hQb _ hx)) (hr.objs.below (hQb _ hx)) (hr.upds.below (hQb _ hx)) (checkPsh_zero (hR.held hph)).2.2 ⟨StoreV.shape3 hr.objs, MvsV.shape3 hr.upds⟩)
 have HC := Lib.hid (show commE r = if tryE r r.pend ≠ 0 then tryE r r.pend else if r.gen = 999 then 2 else 0 from rfl)
 have Hg := Lib.hid hR.gen
 have Hr := Lib.hid hr
 clear hr hblk hR
 go_enter Tryz.func118, Tryz.ntmps118
 go_wp2_with fail
 refine wp_region_held (S := In Q) (by kernel_rfl) ?_
 change wpAnyH _ _ _ _ _ _ _ _ (World.drew _)
 have hC0 := hQ.drew _ hQ1
 generalize w.drew = x0 at hC0 ⊢
 refine wpAnyH_take (i := 0) (v := .pointer (some ⟨D, 0, none⟩)) rfl (by kernel_rfl) (by kernel_rfl) (by kernel_rfl) (fun _ _ _ h => h) (Or.inl ⟨by rfl, fun w hSw => ?_⟩) hC0 ?_
 ·go_simp
 simp only [Act.put, List.getElem_toArray, List.getElem_cons_zero, List.getElem_cons_succ, List.setIfInBounds_toArray, List.set_cons_zero, List.set_cons_succ]
 refine wpAnyH_take (i := 1) (v := .pointer (some ⟨D, 0, none⟩)) rfl (by kernel_rfl) (by kernel_rfl) (by kernel_rfl) (fun _ _ _ h => h) (Or.inl ⟨by rfl, fun w hSw => ?_⟩) hC0 ?_
 ·go_simp
 simp only [Act.put, List.getElem_toArray, List.getElem_cons_zero, List.getElem_cons_succ, List.setIfInBounds_toArray, List.set_cons_zero, List.set_cons_succ]
 refine wpAnyH_take (i := 2) (v := .pointer (some ⟨D, 0, none⟩)) rfl (by kernel_rfl) (by kernel_rfl) (by kernel_rfl) (fun _ _ _ h => h) (Or.inl ⟨by rfl, fun w hSw => ?_⟩) hC0 ?_
 ·go_simp
 simp only [Act.put, List.getElem_toArray, List.getElem_cons_zero, List.getElem_cons_succ, List.setIfInBounds_toArray, List.set_cons_zero, List.set_cons_succ]
 refine wpAnyH_take (i := 4) (v := .pointer (some ⟨D, 0, none⟩)) rfl (by kernel_rfl) (by kernel_rfl) (by kernel_rfl) (fun _ _ _ h => h) (Or.inl ⟨by rfl, fun w hSw => ?_⟩) hC0 ?_
 ·go_simp
 simp only [Act.put, List.getElem_toArray, List.getElem_cons_zero, List.getElem_cons_succ, List.setIfInBounds_toArray, List.set_cons_zero, List.set_cons_succ]
 refine wpAnyH_take (i := 5) (v := .pointer (some ⟨D, 0, none⟩)) rfl (by kernel_rfl) (by kernel_rfl) (by kernel_rfl) (fun _ _ _ h => h) (Or.inl ⟨by rfl, fun w hSw => ?_⟩) hC0 ?_
 ·go_simp
 simp only [Act.put, List.getElem_toArray, List.getElem_cons_zero, List.getElem_cons_succ, List.setIfInBounds_toArray, List.set_cons_zero, List.set_cons_succ]
 refine wpAnyH_take (i := 6) (v := .pointer (some ⟨D, 0, none⟩)) rfl (by kernel_rfl) (by kernel_rfl) (by kernel_rfl) (fun _ _ _ h => h) (Or.inl ⟨by rfl, fun w hSw => ?_⟩) hC0 ?_
 ·go_simp
 simp only [Act.put, List.getElem_toArray, List.getElem_cons_zero, List.getElem_cons_succ, List.setIfInBounds_toArray, List.set_cons_zero, List.set_cons_succ]
 refine wpAnyH_take (i := 3) (v := .agg #[.slice sa r.store.length sc, .slice ra r.refs.length rc, .int .i64 r.gen, .int .i64 r.phase, .slice oa r.pend.objects.length oc, .slice ua r.pend.updates.length uc, .bool r.pend.force]) rfl (by kernel_rfl) (by kernel_rfl) (by kernel_rfl) (fun _ _ _ h => h) (Or.inl ⟨by rfl, fun w hSw => ?_⟩) hC0 ?_
 ·have z0 := y0 _ hSw; have z1 := y1 _ hSw; have z2 := y2 _ hSw; have z3 := y3 _ hSw; have z4 := y4 _ hSw; have z5 := y5 _ hSw; have z6 := y6 _ hSw; go_simp
 simp only [Act.put, List.getElem_toArray, List.getElem_cons_zero, List.getElem_cons_succ, List.setIfInBounds_toArray, List.set_cons_zero, List.set_cons_succ]
 refine wpAnyH_take (i := 7) (v := .pointer (some ⟨D, 4, none⟩)) rfl (by kernel_rfl) (by kernel_rfl) (by kernel_rfl) (fun _ _ _ h => h) (Or.inl ⟨by rfl, fun w hSw => ?_⟩) hC0 ?_
 ·go_simp
 simp only [Act.put, List.getElem_toArray, List.getElem_cons_zero, List.getElem_cons_succ, List.setIfInBounds_toArray, List.set_cons_zero, List.set_cons_succ]
 refine wpAnyH_take (i := 8) (v := .agg #[.slice oa r.pend.objects.length oc, .slice ua r.pend.updates.length uc, .bool r.pend.force]) rfl (by kernel_rfl) (by kernel_rfl) (by kernel_rfl) (fun _ _ _ h => h) (Or.inl ⟨by rfl, fun w hSw => ?_⟩) hC0 ?_
 ·have z4 := y4 _ hSw; have z5 := y5 _ hSw; have z6 := y6 _ hSw; go_simp
 simp only [Act.put, List.getElem_toArray, List.getElem_cons_zero, List.getElem_cons_succ, List.setIfInBounds_toArray, List.set_cons_zero, List.set_cons_succ]
 refine wpAnyH_all (rs := [9]) (by kernel_rfl) (by simp) (fun j hj => ?_)
 obtain rfl : j = 9 := by simpa using hj
 refine Or.inl ?_
 go_wp2_with fail
 refine (HT.out _ hC0).mono ?_
 rintro e x1 ⟨v, u, rfl, hv, hu, hb1⟩
 have hC1 := hQn _ _ hC0 hb1
 obtain ⟨va, vc, rfl⟩ := hv.vshape
 obtain ⟨⟨ma, mc⟩, rfl⟩ := hu.shape
 have hs0 := (hQb _ hC0).size
 have Hv := Lib.hid (hv.weaken (S' := fun b => w.heap.size ≤ b) (fun b hb => by omega))
 have Hu := Lib.hid (hu.weaken (S' := fun b => w.heap.size ≤ b) (fun b hb => by omega))
 clear hv hu hb1 hs0
 go_simp
 refine wpAnyH_take (i := 10) (v := .tuple #[.slice va (tryL r r.pend).length vc, .slice ma (tryM r r.pend).length mc, .int .i64 (tryE r r.pend)]) rfl (by kernel_rfl) (by kernel_rfl) (by kernel_rfl) (fun _ _ _ h => h) (Or.inl ⟨by rfl, fun w hSw => ?_⟩) hC1 ?_
 ·go_simp
 simp only [Act.put, List.getElem_toArray, List.getElem_cons_zero, List.getElem_cons_succ, List.setIfInBounds_toArray, List.set_cons_zero, List.set_cons_succ]
 refine wpAnyH_take (i := 11) (v := .slice va (tryL r r.pend).length vc) rfl (by kernel_rfl) (by kernel_rfl) (by kernel_rfl) (fun _ _ _ h => h) (Or.inl ⟨by rfl, fun w hSw => ?_⟩) hC1 ?_
 ·go_simp
 simp only [Act.put, List.getElem_toArray, List.getElem_cons_zero, List.getElem_cons_succ, List.setIfInBounds_toArray, List.set_cons_zero, List.set_cons_succ]
 refine wpAnyH_take (i := 12) (v := .slice ma (tryM r r.pend).length mc) rfl (by kernel_rfl) (by kernel_rfl) (by kernel_rfl) (fun _ _ _ h => h) (Or.inl ⟨by rfl, fun w hSw => ?_⟩) hC1 ?_
 ·go_simp
 simp only [Act.put, List.getElem_toArray, List.getElem_cons_zero, List.getElem_cons_succ, List.setIfInBounds_toArray, List.set_cons_zero, List.set_cons_succ]
 refine wpAnyH_take (i := 13) (v := .int .i64 (tryE r r.pend)) rfl (by kernel_rfl) (by kernel_rfl) (by kernel_rfl) (fun _ _ _ h => h) (Or.inl ⟨by rfl, fun w hSw => ?_⟩) hC1 ?_
 ·go_simp
 simp only [Act.put, List.getElem_toArray, List.getElem_cons_zero, List.getElem_cons_succ, List.setIfInBounds_toArray, List.set_cons_zero, List.set_cons_succ]
 refine wpAnyH_take (i := 14) (v := .slice va (tryL r r.pend).length vc) rfl (by kernel_rfl) (by kernel_rfl) (by kernel_rfl) (fun _ _ _ h => h) (Or.inl ⟨by rfl, fun w hSw => ?_⟩) hC1 ?_
 ·go_simp
 simp only [Act.put, List.getElem_toArray, List.getElem_cons_zero, List.getElem_cons_succ, List.setIfInBounds_toArray, List.set_cons_zero, List.set_cons_succ]
 refine wpAnyH_take (i := 15) (v := .slice ma (tryM r r.pend).length mc) rfl (by kernel_rfl) (by kernel_rfl) (by kernel_rfl) (fun _ _ _ h => h) (Or.inl ⟨by rfl, fun w hSw => ?_⟩) hC1 ?_
 ·go_simp
 simp only [Act.put, List.getElem_toArray, List.getElem_cons_zero, List.getElem_cons_succ, List.setIfInBounds_toArray, List.set_cons_zero, List.set_cons_succ]
 refine wpAnyH_take (i := 16) (v := .int .i64 (tryE r r.pend)) rfl (by kernel_rfl) (by kernel_rfl) (by kernel_rfl) (fun _ _ _ h => h) (Or.inl ⟨by rfl, fun w hSw => ?_⟩) hC1 ?_
 ·go_simp
 simp only [Act.put, List.getElem_toArray, List.getElem_cons_zero, List.getElem_cons_succ, List.setIfInBounds_toArray, List.set_cons_zero, List.set_cons_succ]
 refine wpAnyH_done (by kernel_rfl) ?_ _
 have HB := Lib.hid (hQb _ hC1)
 have Hk1 := Lib.hid (HK.out _ hC1)
 have HUn := Lib.hid (show Upd (fun b => b = D) w x1 from (upd_none HB.out).weaken (fun _ _ h => h.elim))
 by_cases ht : tryE r r.pend = 0
 case neg =>
  have HE := Lib.hid (show commE r = tryE r r.pend by rw [HC.out, if_pos ht])
  have q : (tryE r r.pend != 0) = true := by simpa using ht
  have HN := Lib.hid ht
  clear ht
  generalize tryE r r.pend = c at *
  go_wp2_with fail
  go_ret
  exact ⟨by rw [HE.out] <;> rfl, fun h => absurd (HE.out.symm.trans h) HN.out, HUn.out⟩
 rw [if_neg (by simpa using ht)] at HC
 have q : (tryE r r.pend != 0) = false := by simpa using ht
 rw [ht]
 have hblk1 := Hk1.out
 have g0 := block_cell (j := 0) hblk1 rfl
 have g1 := block_cell (j := 1) hblk1 rfl
 have g2 := block_cell (j := 2) hblk1 rfl
 have g3 := block_cell (j := 3) hblk1 rfl
 have g4 := block_cell (j := 4) hblk1 rfl
 have g5 := block_cell (j := 5) hblk1 rfl
 have g6 := block_cell (j := 6) hblk1 rfl
 have f0 := block_free (j := 0) hblk1
 have f1 := block_free (j := 1) hblk1
 have f2 := block_free (j := 2) hblk1
 have f3 := block_free (j := 3) hblk1
 have f4 := block_free (j := 4) hblk1
 have f5 := block_free (j := 5) hblk1
 have f6 := block_free (j := 6) hblk1
 by_cases hg : r.gen = 999
 case pos =>
  rw [if_pos hg] at HC
  have q2 : (r.gen == 999) = true := by simpa using hg
  clear hg ht q f0 f1 f2 f3 f4 f5 f6
  go_wp2_with fail
  go_ret
  exact ⟨by rw [HC.out] <;> rfl, (fun h => by rw [HC.out] at h; cases h), HUn.out⟩
 rw [if_neg hg] at HC
 have q2 : (r.gen == 999) = false := by simpa using hg
 have hwr := wrap_in (n := r.gen + 1) (by have := Hg.out; omega)
 have HI := Lib.hid (show I64 (r.gen + 1) from by have := Hg.out; unfold I64; omega)
 clear hg ht q hblk1
 have hW := setG_is (v0 := .slice va (tryL r r.pend).length vc) (v1 := .slice ma (tryM r r.pend).length mc) (v2 := .int .i64 (r.gen + 1)) Hk1.out
 have hU := setG_upd D (.slice va (tryL r r.pend).length vc) (.slice ma (tryM r r.pend).length mc) (.int .i64 (r.gen + 1)) x1
 have hD1 : D < x1.heap.size := lt_of_block Hk1.out
 have hkp : KeepR (fun b => P b ∨ w.heap.size ≤ b) D (setG D (.slice va (tryL r r.pend).length vc) (.slice ma (tryM r r.pend).length mc) (.int .i64 (r.gen + 1)) x1) ⟨tryL r r.pend, tryM r r.pend, r.gen + 1, r.phase, r.pend⟩ := ⟨_, _, _, _, _, _, _, _, hW, ⟨(Hv.out.upd' hU (fun b hb e => by omega)).weaken fun b hb => .inr hb, (Hu.out.upd hU (fun b hb e => by omega)).weaken fun b hb => .inr hb, ((Hr.out.objs.below HB.out).upd' hU (fun b hb e => hP b hb e)).weaken fun b hb => .inl hb, ((Hr.out.upds.below HB.out).upd hU (fun b hb e => hP b hb e)).weaken fun b hb => .inl hb, HI.out, Hr.out.phase⟩⟩
 have HId := Lib.hid (keeperIdle_any _ _ D _ hkp (fun b hb => hb.elim (hP b) (fun h => by omega)))
 have HUw := Lib.hid (HUn.out.trans hU (fun b hb e => e))
 clear hkp hW hU
 go_wp2_with fail
 refine HId.out.mono ?_
 rintro e y ⟨rfl, hk, hu⟩
 have HE := Lib.hid (And.intro hk (HUw.out.trans hu (fun b hb e => e)))
 clear hk hu HId
 go_wp2_with fail
 go_ret
 exact ⟨by rw [HC.out] <;> rfl, fun _ => HE.out.1, HE.out.2⟩
set_option maxRecDepth 100000 in
set_option maxHeartbeats 4000000 in
theorem doesPrepare (r : Rep) (p : Psh) (J : Nat) (ov uv : Value) (S S1 : Nat → Prop) (w : World) (hJ : w.heap[J]? = some (.cells #[ov, uv, .bool p.force] 26 (0, 0))) (ho : StoreV S w ov p.objects) (hu : MvsV S1 w uv p.updates) :
  DoesK 77 #[.pointer (some ⟨J, 0, none⟩)] w (fun _ => False) (fun _ => True) r (checkPsh p) (heldR r p) := by
 intro x D B hx hB hBD hk
 show Calls Tryz.prog 77 #[.pointer (some ⟨D, 0, none⟩), .pointer (some ⟨J, 0, none⟩)] x _
 have hJw := lt_of_block hJ
 have hDx := hk.lt
 obtain ⟨sa, sc, ra, rc, oa, oc, ua, uc, hblk, hr⟩ := hk
 have HOw := Lib.hid (pushOwn_any p _ _ _ _ x (ho.below hx) (hu.below hx))
 have HCk := Lib.hid (fun y (hy : Below w.heap.size w y) => pushCheck_any p _ _ _ _ y (ho.below hy) (hu.below hy))
 obtain ⟨oa1, oc1, rfl⟩ := ho.vshape
 obtain ⟨⟨ua1, uc1⟩, rfl⟩ := hu.shape
 simp only [pshV] at HOw HCk
 have hJx := blk_below hJ hx
 have j0 := block_cell (j := 0) hJx rfl
 have j1 := block_cell (j := 1) hJx rfl
 have j2 := block_cell (j := 2) hJx rfl
 have Hr := Lib.hid hr
 have HB := Lib.hid hBD
 clear hr ho hu hJ
 go_enter Tryz.func77, Tryz.ntmps77
 go_wp2_with fail
 refine HOw.out.mono ?_
 rintro e x1 ⟨ov2, uv2, rfl, ho2, hu2, hb1⟩
 obtain ⟨oa2, oc2, rfl⟩ := ho2.vshape
 obtain ⟨⟨ua2, uc2⟩, rfl⟩ := hu2.shape
 simp only [pshV]
 have hblk1 := blk_below hblk hb1
 have g0 := block_cell (j := 0) hblk1 rfl
 have g1 := block_cell (j := 1) hblk1 rfl
 have g2 := block_cell (j := 2) hblk1 rfl
 have g3 := block_cell (j := 3) hblk1 rfl
 have g4 := block_cell (j := 4) hblk1 rfl
 have g5 := block_cell (j := 5) hblk1 rfl
 have g6 := block_cell (j := 6) hblk1 rfl
 have f0 := block_free (j := 0) hblk1
 have f1 := block_free (j := 1) hblk1
 have f2 := block_free (j := 2) hblk1
 have f3 := block_free (j := 3) hblk1
 have f4 := block_free (j := 4) hblk1
 have f5 := block_free (j := 5) hblk1
 have f6 := block_free (j := 6) hblk1
 have hW := setQ_is (v3 := .int .i64 1) (v4 := .slice oa2 p.objects.length oc2) (v5 := .slice ua2 p.updates.length uc2) (v6 := .bool p.force) hblk1
 have hU := setQ_upd D (.int .i64 1) (.slice oa2 p.objects.length oc2) (.slice ua2 p.updates.length uc2) (.bool p.force) x1
 have hJ1 := hU.blk (blk_below hJx hb1) (by omega)
 have m0 := block_cell (j := 0) hJ1 rfl
 have m1 := block_cell (j := 1) hJ1 rfl
 have m2 := block_cell (j := 2) hJ1 rfl
 simp only [setQ] at m0 m1 m2
 have hBy : Below w.heap.size w (setQ D (.int .i64 1) (.slice oa2 p.objects.length oc2) (.slice ua2 p.updates.length uc2) (.bool p.force) x1) := (below_next hx hb1).trans (hU.below (B := w.heap.size) (below_next hx hb1).size (fun b hb => by omega))
 have HC1 := Lib.hid (HCk.out _ hBy)
 have HKp := Lib.hid (show KeepR (fun b => B ≤ b ∧ b ≠ D) D (setQ D (.int .i64 1) (.slice oa2 p.objects.length oc2) (.slice ua2 p.updates.length uc2) (.bool p.force) x1) (heldR r p) from ⟨_, _, _, _, _, _, _, _, hW, ⟨(Hr.out.store.below hb1).upd' hU (fun b hb e => hb.2 e), (Hr.out.refs.below hb1).upd hU (fun b hb e => hb.2 e), (ho2.upd' hU (fun b hb e => by omega)).weaken (fun b hb => ⟨by omega, by omega⟩), (hu2.upd hU (fun b hb e => by omega)).weaken (fun b hb => ⟨by omega, by omega⟩), Hr.out.gen, by first | (show I64 0; unfold I64; decide) | (show I64 1; unfold I64; decide) | (show I64 2; unfold I64; decide)⟩⟩)
 have HUy := Lib.hid (show Upd (fun b => b = D ∨ False) x (setQ D (.int .i64 1) (.slice oa2 p.objects.length oc2) (.slice ua2 p.updates.length uc2) (.bool p.force) x1) from (((upd_none hb1).weaken (fun _ _ h => h.elim)).trans hU (fun b hb e => .inl e)))
 clear hW hU hJ1 hBy ho2 hu2 hb1 hblk1 HCk HOw j0 j1 j2
 go_wp2_with fail
 refine HC1.out.mono ?_
 rintro e y ⟨rfl, hb2⟩
 have HE := Lib.hid (And.intro (HKp.out.below hb2) (HUy.out.trans (upd_none hb2) (fun _ _ h => h.elim)))
 clear hb2 HC1
 go_wp2_with fail
 go_ret
 exact ⟨rfl, fun _ => HE.out.1, HE.out.2, trivial⟩
set_option maxRecDepth 100000 in
set_option maxHeartbeats 4000000 in
theorem doesCrash (r : Rep) (w : World) : DoesK 79 #[] w (fun _ => False) (fun _ => True) r 0 (idleR r) := by
 intro x D B hx hB hBD hk
 show Calls Tryz.prog 79 #[.pointer (some ⟨D, 0, none⟩)] x _
 have HId := Lib.hid (keeperIdle_any r _ D x hk (fun b hb => hb.2))
 clear hk
 go_enter Tryz.func79, Tryz.ntmps79
 go_wp2_with fail
 refine HId.out.mono ?_
 rintro e y ⟨rfl, hk, hu⟩
 have HE := Lib.hid (And.intro hk (hu.weaken (T' := fun b => b = D ∨ False) (fun _ _ h => .inl h)))
 clear hk hu
 go_wp2_with fail
 go_ret
 exact ⟨rfl, fun _ => HE.out.1, HE.out.2, trivial⟩
set_option maxRecDepth 100000 in
set_option maxHeartbeats 4000000 in
theorem doesFinish (r : Rep) (c : Bool) (J : Nat) (w : World) (hJ : w.heap[J]? = some (.cells #[.bool c] 4 (0, 0))) (hR : RightR r) (hph : r.phase ≠ 0) :
  DoesK 117 #[.pointer (some ⟨J, 0, none⟩)] w (fun _ => False) (fun _ => True) r (endE r c) (endR r c) := by
 intro x D B hx hB hBD hk
 show Calls Tryz.prog 117 #[.pointer (some ⟨D, 0, none⟩), .pointer (some ⟨J, 0, none⟩)] x _
 have hDx := hk.lt
 have j0 := block_cell (j := 0) (blk_below hJ hx) rfl
 cases c
 ·have HId := Lib.hid (keeperIdle_any r _ D x hk (fun b hb => hb.2))
  have HX := Lib.hid (show endE r false = 0 ∧ endR r false = idleR r from ⟨rfl, rfl⟩)
  clear hk hJ
  go_enter Tryz.func117, Tryz.ntmps117
  go_wp2_with fail
  refine HId.out.mono ?_
  rintro e y ⟨rfl, hk, hu⟩
  have HE := Lib.hid (And.intro hk (hu.weaken (T' := fun b => b = D ∨ False) (fun _ _ h => .inl h)))
  clear hk hu
  go_wp2_with fail
  go_ret
  exact ⟨by rw [HX.out.1] <;> rfl, fun _ => by rw [HX.out.2]; exact HE.out.1, HE.out.2, trivial⟩
 ·have HCo := Lib.hid (commit_any r _ D x hk (fun b hb => hb.2) hR hph)
  have HX := Lib.hid (show endE r true = commE r ∧ endR r true = doneR r r.pend from ⟨rfl, rfl⟩)
  clear hk hJ hR
  go_enter Tryz.func117, Tryz.ntmps117
  go_wp2_with fail
  refine HCo.out.mono ?_
  rintro e y ⟨rfl, hk, hu⟩
  have HE := Lib.hid (And.intro (fun h => KeepR.weaken (hk h) (P' := fun b => B ≤ b ∧ b ≠ D) (fun b hb => hb.elim (fun h => h) (fun h => ⟨by omega, by omega⟩))) (hu.weaken (T' := fun b => b = D ∨ False) (fun _ _ h => .inl h)))
  clear hk hu
  go_wp2_with fail
  go_ret
  exact ⟨by rw [HX.out.1] <;> rfl, fun h => by rw [HX.out.2]; exact HE.out.1 (HX.out.1.symm.trans h), HE.out.2, trivial⟩
set_option maxRecDepth 100000 in
set_option maxHeartbeats 4000000 in
theorem doesVote (r : Rep) (J : Nat) (w : World) (hJ : w.heap[J]? = some (.cells #[.string ByteArray.empty] 9 (0, 0))) (hR : RightR r) (hph : r.phase ≠ 0) (ht : Tab w) :
  DoesK 116 #[.pointer (some ⟨J, 0, none⟩)] w (fun b => b = J) (fun y => y.cell? ⟨J, 0, none⟩ = some (.string (voteR r r.pend))) r 0 (votedR r) := by
 intro x D B hx hB hBD hk
 show Calls Tryz.prog 116 #[.pointer (some ⟨D, 0, none⟩), .pointer (some ⟨J, 0, none⟩)] x _
 have hJw := lt_of_block hJ
 have hDx := hk.lt
 obtain ⟨sa, sc, ra, rc, oa, oc, ua, uc, hblk, hr⟩ := hk
 have hJx := blk_below hJ hx
 have htx := ht.below hx
 have g0 := block_cell (j := 0) hblk rfl
 have g1 := block_cell (j := 1) hblk rfl
 have g2 := block_cell (j := 2) hblk rfl
 have g3 := block_cell (j := 3) hblk rfl
 have g4 := block_cell (j := 4) hblk rfl
 have g5 := block_cell (j := 5) hblk rfl
 have g6 := block_cell (j := 6) hblk rfl
 have f0 := block_free (j := 0) hblk
 have f1 := block_free (j := 1) hblk
 have f2 := block_free (j := 2) hblk
 have f3 := block_free (j := 3) hblk
 have f4 := block_free (j := 4) hblk
 have f5 := block_free (j := 5) hblk
 have f6 := block_free (j := 6) hblk
 have hblk1 : (x.setCell ⟨D, 3, none⟩ (.int .i64 2)).heap[D]? = some (.cells #[.slice sa r.store.length sc, .slice ra r.refs.length rc, .int .i64 r.gen, .int .i64 2, .slice oa r.pend.objects.length oc, .slice ua r.pend.updates.length uc, .bool r.pend.force] 120 (0, 0)) := by have := block_setCell (j := 3) hblk (.int .i64 2); simpa using this
 have hU1 : Upd (fun b => b = D) x (x.setCell ⟨D, 3, none⟩ (.int .i64 2)) := (Upd.refl (fun b => b = D) x).setCell (p := ⟨D, 3, none⟩) (fun _ => rfl) _
 have hr1 := RepIs.upd hr hU1 (fun b hb e => hb.2 e)
 have hB1 : Below w.heap.size w (x.setCell ⟨D, 3, none⟩ (.int .i64 2)) := hx.trans (hU1.below (B := w.heap.size) hx.size (fun b hb => by omega))
 have ht1 := ht.below hB1
 have hJ1 := hU1.blk hJx (by omega)
 have HBl := Lib.hid (And.intro hblk1 (And.intro hr1 (And.intro ht1 (And.intro hJ1 hU1))))
 clear hblk hr hJ hJx ht htx hr1 ht1 hJ1 hU1 hB1 hblk1
 have HQ0 := Lib.hid (checkPsh_zero (hR.held hph))
 have Hck := Lib.hid (hR.held hph)
 have Hg := Lib.hid hR.gen
 clear hR
 go_enter Tryz.func116, Tryz.ntmps116
 go_wp2_with fail
 obtain ⟨hblk1, hr1, ht1, hJ1, hU1⟩ := HBl.out
 clear HBl g0 g1 g2 g3 g4 g5 g6 f0 f1 f2 f3 f4 f5 f6
 have hs1 : (x.setCell ⟨D, 3, none⟩ (.int .i64 2)).heap.size = x.heap.size := by simp [World.setCell]
 generalize x.setCell ⟨D, 3, none⟩ (.int .i64 2) = x1 at *
 refine wp_region_held (S := (fun z : World => z.heap[D]? = some (.cells #[.slice sa r.store.length sc, .slice ra r.refs.length rc, .int .i64 r.gen, .int .i64 2, .slice oa r.pend.objects.length oc, .slice ua r.pend.updates.length uc, .bool r.pend.force] 120 (0, 0)))) (by kernel_rfl) ?_
 change wpAnyH _ _ _ _ _ _ _ _ (World.drew _)
 have hbd : Below x1.heap.size x1 x1.drew := (Below.refl _ _).drew
 have hC0 := blk_below hblk1 hbd
 have HV := Lib.hid (voteRaw_any (votedR r) r.pend _ _ _ _ _ _ _ _ _ _ _ (hr1.store.below hbd) (hr1.refs.below hbd) (hr1.objs.below hbd) (hr1.upds.below hbd) ⟨StoreV.shape3 hr1.objs, MvsV.shape3 hr1.upds⟩ Hck.out Hg.out.1 Hg.out.2 (ht1.below hbd))
 have HR1 := Lib.hid (hr1.below hbd)
 have HJ := Lib.hid (blk_below hJ1 hbd)
 have HU := Lib.hid (show Upd (fun b => b = D ∨ b = J) x x1.drew from (hU1.trans (upd_none hbd) (fun _ _ h => h.elim)).weaken (fun _ _ h => .inl h))
 have hsd : x1.drew.heap.size = x.heap.size := hs1
 clear hbd hr1 hJ1 hU1 ht1 hblk1 hs1
 generalize x1.drew = x0 at *
 refine wpAnyH_take (i := 0) (v := .pointer (some ⟨D, 0, none⟩)) rfl (by kernel_rfl) (by kernel_rfl) (by kernel_rfl) (fun _ _ _ h => h) (Or.inl ⟨by rfl, fun w hSw => ?_⟩) hC0 ?_
 ·go_simp
 simp only [Act.put, List.getElem_toArray, List.getElem_cons_zero, List.getElem_cons_succ, List.setIfInBounds_toArray, List.set_cons_zero, List.set_cons_succ]
 refine wpAnyH_take (i := 1) (v := .pointer (some ⟨D, 0, none⟩)) rfl (by kernel_rfl) (by kernel_rfl) (by kernel_rfl) (fun _ _ _ h => h) (Or.inl ⟨by rfl, fun w hSw => ?_⟩) hC0 ?_
 ·go_simp
 simp only [Act.put, List.getElem_toArray, List.getElem_cons_zero, List.getElem_cons_succ, List.setIfInBounds_toArray, List.set_cons_zero, List.set_cons_succ]
 refine wpAnyH_take (i := 2) (v := .pointer (some ⟨D, 0, none⟩)) rfl (by kernel_rfl) (by kernel_rfl) (by kernel_rfl) (fun _ _ _ h => h) (Or.inl ⟨by rfl, fun w hSw => ?_⟩) hC0 ?_
 ·go_simp
 simp only [Act.put, List.getElem_toArray, List.getElem_cons_zero, List.getElem_cons_succ, List.setIfInBounds_toArray, List.set_cons_zero, List.set_cons_succ]
 refine wpAnyH_take (i := 4) (v := .pointer (some ⟨D, 0, none⟩)) rfl (by kernel_rfl) (by kernel_rfl) (by kernel_rfl) (fun _ _ _ h => h) (Or.inl ⟨by rfl, fun w hSw => ?_⟩) hC0 ?_
 ·go_simp
 simp only [Act.put, List.getElem_toArray, List.getElem_cons_zero, List.getElem_cons_succ, List.setIfInBounds_toArray, List.set_cons_zero, List.set_cons_succ]
 refine wpAnyH_take (i := 5) (v := .pointer (some ⟨D, 0, none⟩)) rfl (by kernel_rfl) (by kernel_rfl) (by kernel_rfl) (fun _ _ _ h => h) (Or.inl ⟨by rfl, fun w hSw => ?_⟩) hC0 ?_
 ·go_simp
 simp only [Act.put, List.getElem_toArray, List.getElem_cons_zero, List.getElem_cons_succ, List.setIfInBounds_toArray, List.set_cons_zero, List.set_cons_succ]
 refine wpAnyH_take (i := 6) (v := .pointer (some ⟨D, 0, none⟩)) rfl (by kernel_rfl) (by kernel_rfl) (by kernel_rfl) (fun _ _ _ h => h) (Or.inl ⟨by rfl, fun w hSw => ?_⟩) hC0 ?_
 ·go_simp
 simp only [Act.put, List.getElem_toArray, List.getElem_cons_zero, List.getElem_cons_succ, List.setIfInBounds_toArray, List.set_cons_zero, List.set_cons_succ]
 refine wpAnyH_take (i := 3) (v := .agg #[.slice sa r.store.length sc, .slice ra r.refs.length rc, .int .i64 r.gen, .int .i64 2, .slice oa r.pend.objects.length oc, .slice ua r.pend.updates.length uc, .bool r.pend.force]) rfl (by kernel_rfl) (by kernel_rfl) (by kernel_rfl) (fun _ _ _ h => h) (Or.inl ⟨by rfl, fun w hSw => ?_⟩) hC0 ?_
 ·have z0 := block_cell (j := 0) hSw rfl; have z1 := block_cell (j := 1) hSw rfl; have z2 := block_cell (j := 2) hSw rfl; have z3 := block_cell (j := 3) hSw rfl; have z4 := block_cell (j := 4) hSw rfl; have z5 := block_cell (j := 5) hSw rfl; have z6 := block_cell (j := 6) hSw rfl; go_simp
 simp only [Act.put, List.getElem_toArray, List.getElem_cons_zero, List.getElem_cons_succ, List.setIfInBounds_toArray, List.set_cons_zero, List.set_cons_succ]
 refine wpAnyH_take (i := 7) (v := .pointer (some ⟨D, 4, none⟩)) rfl (by kernel_rfl) (by kernel_rfl) (by kernel_rfl) (fun _ _ _ h => h) (Or.inl ⟨by rfl, fun w hSw => ?_⟩) hC0 ?_
 ·go_simp
 simp only [Act.put, List.getElem_toArray, List.getElem_cons_zero, List.getElem_cons_succ, List.setIfInBounds_toArray, List.set_cons_zero, List.set_cons_succ]
 refine wpAnyH_take (i := 8) (v := .agg #[.slice oa r.pend.objects.length oc, .slice ua r.pend.updates.length uc, .bool r.pend.force]) rfl (by kernel_rfl) (by kernel_rfl) (by kernel_rfl) (fun _ _ _ h => h) (Or.inl ⟨by rfl, fun w hSw => ?_⟩) hC0 ?_
 ·have z4 := block_cell (j := 4) hSw rfl; have z5 := block_cell (j := 5) hSw rfl; have z6 := block_cell (j := 6) hSw rfl; go_simp
 simp only [Act.put, List.getElem_toArray, List.getElem_cons_zero, List.getElem_cons_succ, List.setIfInBounds_toArray, List.set_cons_zero, List.set_cons_succ]
 refine wpAnyH_all (rs := [9]) (by kernel_rfl) (by simp) (fun j hj => ?_)
 obtain rfl : j = 9 := by simpa using hj
 refine Or.inl ?_
 go_wp2_with fail
 refine HV.out.mono ?_
 rintro e x1 ⟨rfl, hb1⟩
 have hC1 := blk_below hC0 hb1
 have HR2 := Lib.hid (HR1.out.below hb1)
 have hJ2 := blk_below HJ.out hb1
 have HU2 := Lib.hid (HU.out.trans (upd_none hb1) (fun _ _ h => h.elim))
 have p0 := block_cell (j := 0) hJ2 rfl
 have p1 := block_free (j := 0) hJ2
 clear hb1 HV
 go_simp
 refine wpAnyH_all (rs := [10]) (by kernel_rfl) (by simp) (fun j hj => ?_)
 obtain rfl : j = 10 := by simpa using hj
 refine Or.inl ?_
 have hU5 : Upd (fun b => b = J) x1 (x1.setCell ⟨J, 0, none⟩ (.string (voteR r r.pend))) := (Upd.refl (fun b => b = J) x1).setCell (p := ⟨J, 0, none⟩) (fun _ => rfl) _
 have hC5 := hU5.blk hC1 (by omega)
 have HEnd := Lib.hid (And.intro (show KeepR (fun b => B ≤ b ∧ b ≠ D) D (x1.setCell ⟨J, 0, none⟩ (.string (voteR r r.pend))) (votedR r) from ⟨_, _, _, _, _, _, _, _, hC5, ⟨HR2.out.store.upd' hU5 (fun b hb e => by omega), HR2.out.refs.upd hU5 (fun b hb e => by omega), HR2.out.objs.upd' hU5 (fun b hb e => by omega), HR2.out.upds.upd hU5 (fun b hb e => by omega), HR2.out.gen, by first | (show I64 0; unfold I64; decide) | (show I64 1; unfold I64; decide) | (show I64 2; unfold I64; decide)⟩⟩) (And.intro (HU2.out.trans hU5 (fun b hb e => .inr e)) (show (x1.setCell ⟨J, 0, none⟩ (.string (voteR r r.pend))).cell? ⟨J, 0, none⟩ = some (.string (voteR r r.pend)) from block_cell (block_setCell (j := 0) hJ2 (.string (voteR r r.pend))) rfl)))
 have HC5 := Lib.hid hC5
 clear hU5 hC5 hJ2
 go_wp2_with fail
 first | refine ⟨HC5.out, ?_⟩ | skip
 first | refine wpAnyH_done (by kernel_rfl) ?_ _ | refine ⟨by kernel_rfl, ?_⟩
 go_wp2_with fail
 go_ret
 exact ⟨rfl, fun _ => HEnd.out.1, HEnd.out.2.1, HEnd.out.2.2⟩
end Go.Proofs.YtjdgpgfiomnjkaaGreatDoor
namespace Go.Proofs.YtjdgpgfiomnjkaaGreatDoor
open Go.RowKit
set_option linter.unusedVariables false
set_option linter.unusedSimpArgs false
set_option linter.unusedSectionVars false
variable [Ghost]
theorem inC_cra (r : Rep) : inC r r.phase 0 = repCheck r ∧ inR r r.phase 0 (idleR r) = craR r := by
 have h : inC r r.phase 0 = repCheck r := by
  unfold inC inE
  by_cases hc : repCheck r = 0 <;> simp [hc]
 exact ⟨h, by unfold inR craR; rw [h]⟩
theorem inC_vot (r : Rep) : inC r 1 0 = inE r 1 ∧ inR r 1 0 (votedR r) = votR r := by
 have h : inC r 1 0 = inE r 1 := by
  unfold inC
  by_cases hc : inE r 1 = 0 <;> simp [hc]
 exact ⟨h, by unfold inR votR; rw [h]⟩
theorem inE_held {r : Rep} {ph : Int} (h : inE r ph = 0) (hp : ph ≠ 0) : RightR r ∧ r.phase ≠ 0 := ⟨rep_right.1 (inE_zero h).1, by rw [(inE_zero h).2]; exact hp⟩
set_option maxRecDepth 100000 in
set_option maxHeartbeats 4000000 in
theorem prepare_any (r : Rep) (p : Psh) (sv rv ov2 uv2 ov uv : Value) (S S1 : Nat → Prop) (w : World) (h : RepIs S w r sv rv ov2 uv2) (ho : StoreV S1 w ov p.objects) (hu : MvsV S1 w uv p.updates) :
  Calls Tryz.prog 22 #[repV r sv rv ov2 uv2, pshV p ov uv] w fun e w' => RetRepF w w' e (prepR r p) (prepE r p) := by
 have H := Lib.hid h
 obtain ⟨sa, sc, rfl⟩ := h.store.vshape
 obtain ⟨⟨ra, rc⟩, rfl⟩ := h.refs.shape
 obtain ⟨oa, oc, rfl⟩ := h.objs.vshape
 obtain ⟨⟨ua, uc⟩, rfl⟩ := h.upds.shape
 clear h
 have HO := Lib.hid ho
 have HU0 := Lib.hid hu
 obtain ⟨oap, ocp, rfl⟩ := ho.vshape
 obtain ⟨⟨uap, ucp⟩, rfl⟩ := hu.shape
 clear ho hu
 simp only [repV, pshV]
 obtain ⟨Q, hQ, hQ1, HB0⟩ := cls_allocs w [.cells #[.slice sa r.store.length sc, .slice ra r.refs.length rc, .int .i64 r.gen, .int .i64 r.phase, .slice oa r.pend.objects.length oc, .slice ua r.pend.updates.length uc, .bool r.pend.force] 28, .cells #[.slice oap p.objects.length ocp, .slice uap p.updates.length ucp, .bool p.force] 26, .cells #[.slice none 0 0, .slice none 0 0, .int .i64 0, .int .i64 0, .slice none 0 0, .slice none 0 0, .bool false] 28]
 simp only [List.foldl] at hQ1
 have hQb := hQ.below
 have HIn := Lib.hid (in_any r 0 (checkPsh p) (heldR r p) 77 #[.pointer (some ⟨w.heap.size + 1, 0, none⟩)] (fun _ => False) (fun _ => True) _ _ _ _ _ _ (H.out.below (hQb _ hQ1)) (fun _ h => h.elim) (fun _ _ _ _ => trivial) (fun _ _ => rfl) (fun _ => doesPrepare r p _ _ _ _ _ _ (HB0 _ hQ1 1 _ rfl) (HO.out.below (hQb _ hQ1)) (HU0.out.below (hQb _ hQ1))))
 simp only [repV] at HIn
 have y0 := block_cell (j := 0) (HB0 _ hQ1 0 _ rfl) rfl
 have y1 := block_cell (j := 1) (HB0 _ hQ1 0 _ rfl) rfl
 have y2 := block_cell (j := 2) (HB0 _ hQ1 0 _ rfl) rfl
 have y3 := block_cell (j := 3) (HB0 _ hQ1 0 _ rfl) rfl
 have y4 := block_cell (j := 4) (HB0 _ hQ1 0 _ rfl) rfl
 have y5 := block_cell (j := 5) (HB0 _ hQ1 0 _ rfl) rfl
 have y6 := block_cell (j := 6) (HB0 _ hQ1 0 _ rfl) rfl
 simp only [Nat.add_zero] at y0 y1 y2 y3 y4 y5 y6
 go_enter Tryz.func22, Tryz.ntmps22
 go_wp2_with fail
 refine HIn.out.mono ?_
 rintro e x1 hpost
 obtain ⟨s5, r5, o5, u5, rfl, hr5, hu5, _, _⟩ := hpost
 generalize hX : inR r 0 (checkPsh p) (heldR r p) = X at *
 generalize hE : inC r 0 (checkPsh p) = E at *
 obtain ⟨sa5, sc5, rfl⟩ := hr5.store.vshape
 obtain ⟨⟨ra5, rc5⟩, rfl⟩ := hr5.refs.shape
 obtain ⟨oa5, oc5, rfl⟩ := hr5.objs.vshape
 obtain ⟨⟨ua5, uc5⟩, rfl⟩ := hr5.upds.shape
 have hb1 := below_none hu5
 have hz1 := blk_below (HB0 _ hQ1 2 _ rfl) hb1
 have g0 := block_cell (j := 0) hz1 rfl
 have g1 := block_cell (j := 1) hz1 rfl
 have g2 := block_cell (j := 2) hz1 rfl
 have g3 := block_cell (j := 3) hz1 rfl
 have g4 := block_cell (j := 4) hz1 rfl
 have g5 := block_cell (j := 5) hz1 rfl
 have g6 := block_cell (j := 6) hz1 rfl
 have f0 := block_free (j := 0) hz1
 have f1 := block_free (j := 1) hz1
 have f2 := block_free (j := 2) hz1
 have f3 := block_free (j := 3) hz1
 have f4 := block_free (j := 4) hz1
 have f5 := block_free (j := 5) hz1
 have f6 := block_free (j := 6) hz1
 have HW := Lib.hid (set7_is (v0 := .slice sa5 X.store.length sc5) (v1 := .slice ra5 X.refs.length rc5) (v2 := .int .i64 X.gen) (v3 := .int .i64 X.phase) (v4 := .slice oa5 X.pend.objects.length oc5) (v5 := .slice ua5 X.pend.updates.length uc5) (v6 := .bool X.pend.force) hz1)
 have HU := Lib.hid (set7_upd (w.heap.size + 2) (.slice sa5 X.store.length sc5) (.slice ra5 X.refs.length rc5) (.int .i64 X.gen) (.int .i64 X.phase) (.slice oa5 X.pend.objects.length oc5) (.slice ua5 X.pend.updates.length uc5) (.bool X.pend.force) x1)
 have HBx := Lib.hid (below_next (hQb _ hQ1) hb1)
 have Hr5 := Lib.hid hr5
 have HX := Lib.hid hX
 have HE := Lib.hid hE
 clear hX hE hr5 hu5 hb1 hz1
 simp only [repV]
 go_wp2_with fail
 change bodyPost _ _ _ _ _ (set7 (w.heap.size + 2) (.slice sa5 X.store.length sc5) (.slice ra5 X.refs.length rc5) (.int .i64 X.gen) (.int .i64 X.phase) (.slice oa5 X.pend.objects.length oc5) (.slice ua5 X.pend.updates.length uc5) (.bool X.pend.force) x1)
 generalize set7 (w.heap.size + 2) (.slice sa5 X.store.length sc5) (.slice ra5 X.refs.length rc5) (.int .i64 X.gen) (.int .i64 X.phase) (.slice oa5 X.pend.objects.length oc5) (.slice ua5 X.pend.updates.length uc5) (.bool X.pend.force) x1 = z at *
 have k0 := block_cell (j := 0) HW.out rfl
 have k1 := block_cell (j := 1) HW.out rfl
 have k2 := block_cell (j := 2) HW.out rfl
 have k3 := block_cell (j := 3) HW.out rfl
 have k4 := block_cell (j := 4) HW.out rfl
 have k5 := block_cell (j := 5) HW.out rfl
 have k6 := block_cell (j := 6) HW.out rfl
 refine bodyPost_ret (v := .tuple #[.agg #[.slice sa5 X.store.length sc5, .slice ra5 X.refs.length rc5, .int .i64 X.gen, .int .i64 X.phase, .slice oa5 X.pend.objects.length oc5, .slice ua5 X.pend.updates.length uc5, .bool X.pend.force], .int .i64 E]) (by simp [results, Tryz.results22, go_sem]; simp [k0, k1, k2, k3, k4, k5, k6] <;> rfl) rfl ?_
 have hs := (hQb _ hQ1).size
 have hX2 : prepR r p = X := HX.out
 have hE2 : prepE r p = E := HE.out
 refine ⟨_, _, _, _, by rw [hX2, hE2]; rfl, ?_, HBx.out.trans (HU.out.below (B := w.heap.size) HBx.out.size (fun b hb => by omega))⟩
 rw [hX2]
 exact (RepIs.upd Hr5.out HU.out (fun b hb e => by simp only [World.size_alloc] at hb; omega)).weaken (S' := fun b => w.heap.size ≤ b) (fun b hb => by simp only [World.size_alloc] at hb; omega)
set_option maxRecDepth 100000 in
set_option maxHeartbeats 4000000 in
theorem finish_any (r : Rep) (c : Bool) (sv rv ov2 uv2 : Value) (S : Nat → Prop) (w : World) (h : RepIs S w r sv rv ov2 uv2) :
  Calls Tryz.prog 55 #[repV r sv rv ov2 uv2, .bool c] w fun e w' => RetRepF w w' e (finR r c) (finE r c) := by
 have H := Lib.hid h
 obtain ⟨sa, sc, rfl⟩ := h.store.vshape
 obtain ⟨⟨ra, rc⟩, rfl⟩ := h.refs.shape
 obtain ⟨oa, oc, rfl⟩ := h.objs.vshape
 obtain ⟨⟨ua, uc⟩, rfl⟩ := h.upds.shape
 clear h
 simp only [repV]
 obtain ⟨Q, hQ, hQ1, HB0⟩ := cls_allocs w [.cells #[.slice sa r.store.length sc, .slice ra r.refs.length rc, .int .i64 r.gen, .int .i64 r.phase, .slice oa r.pend.objects.length oc, .slice ua r.pend.updates.length uc, .bool r.pend.force] 28, .cells #[.bool c] 4, .cells #[.slice none 0 0, .slice none 0 0, .int .i64 0, .int .i64 0, .slice none 0 0, .slice none 0 0, .bool false] 28]
 simp only [List.foldl] at hQ1
 have hQb := hQ.below
 have HIn := Lib.hid (in_any r 2 (endE r c) (endR r c) 117 #[.pointer (some ⟨w.heap.size + 1, 0, none⟩)] (fun _ => False) (fun _ => True) _ _ _ _ _ _ (H.out.below (hQb _ hQ1)) (fun _ h => h.elim) (fun _ _ _ _ => trivial) (fun _ _ => rfl) (fun h => doesFinish r c _ _ (HB0 _ hQ1 1 _ rfl) (inE_held h (by decide)).1 (inE_held h (by decide)).2))
 simp only [repV] at HIn
 have y0 := block_cell (j := 0) (HB0 _ hQ1 0 _ rfl) rfl
 have y1 := block_cell (j := 1) (HB0 _ hQ1 0 _ rfl) rfl
 have y2 := block_cell (j := 2) (HB0 _ hQ1 0 _ rfl) rfl
 have y3 := block_cell (j := 3) (HB0 _ hQ1 0 _ rfl) rfl
 have y4 := block_cell (j := 4) (HB0 _ hQ1 0 _ rfl) rfl
 have y5 := block_cell (j := 5) (HB0 _ hQ1 0 _ rfl) rfl
 have y6 := block_cell (j := 6) (HB0 _ hQ1 0 _ rfl) rfl
 simp only [Nat.add_zero] at y0 y1 y2 y3 y4 y5 y6
 go_enter Tryz.func55, Tryz.ntmps55
 go_wp2_with fail
 refine HIn.out.mono ?_
 rintro e x1 hpost
 obtain ⟨s5, r5, o5, u5, rfl, hr5, hu5, _, _⟩ := hpost
 generalize hX : inR r 2 (endE r c) (endR r c) = X at *
 generalize hE : inC r 2 (endE r c) = E at *
 obtain ⟨sa5, sc5, rfl⟩ := hr5.store.vshape
 obtain ⟨⟨ra5, rc5⟩, rfl⟩ := hr5.refs.shape
 obtain ⟨oa5, oc5, rfl⟩ := hr5.objs.vshape
 obtain ⟨⟨ua5, uc5⟩, rfl⟩ := hr5.upds.shape
 have hb1 := below_none hu5
 have hz1 := blk_below (HB0 _ hQ1 2 _ rfl) hb1
 have g0 := block_cell (j := 0) hz1 rfl
 have g1 := block_cell (j := 1) hz1 rfl
 have g2 := block_cell (j := 2) hz1 rfl
 have g3 := block_cell (j := 3) hz1 rfl
 have g4 := block_cell (j := 4) hz1 rfl
 have g5 := block_cell (j := 5) hz1 rfl
 have g6 := block_cell (j := 6) hz1 rfl
 have f0 := block_free (j := 0) hz1
 have f1 := block_free (j := 1) hz1
 have f2 := block_free (j := 2) hz1
 have f3 := block_free (j := 3) hz1
 have f4 := block_free (j := 4) hz1
 have f5 := block_free (j := 5) hz1
 have f6 := block_free (j := 6) hz1
 have HW := Lib.hid (set7_is (v0 := .slice sa5 X.store.length sc5) (v1 := .slice ra5 X.refs.length rc5) (v2 := .int .i64 X.gen) (v3 := .int .i64 X.phase) (v4 := .slice oa5 X.pend.objects.length oc5) (v5 := .slice ua5 X.pend.updates.length uc5) (v6 := .bool X.pend.force) hz1)
 have HU := Lib.hid (set7_upd (w.heap.size + 2) (.slice sa5 X.store.length sc5) (.slice ra5 X.refs.length rc5) (.int .i64 X.gen) (.int .i64 X.phase) (.slice oa5 X.pend.objects.length oc5) (.slice ua5 X.pend.updates.length uc5) (.bool X.pend.force) x1)
 have HBx := Lib.hid (below_next (hQb _ hQ1) hb1)
 have Hr5 := Lib.hid hr5
 have HX := Lib.hid hX
 have HE := Lib.hid hE
 clear hX hE hr5 hu5 hb1 hz1
 simp only [repV]
 go_wp2_with fail
 change bodyPost _ _ _ _ _ (set7 (w.heap.size + 2) (.slice sa5 X.store.length sc5) (.slice ra5 X.refs.length rc5) (.int .i64 X.gen) (.int .i64 X.phase) (.slice oa5 X.pend.objects.length oc5) (.slice ua5 X.pend.updates.length uc5) (.bool X.pend.force) x1)
 generalize set7 (w.heap.size + 2) (.slice sa5 X.store.length sc5) (.slice ra5 X.refs.length rc5) (.int .i64 X.gen) (.int .i64 X.phase) (.slice oa5 X.pend.objects.length oc5) (.slice ua5 X.pend.updates.length uc5) (.bool X.pend.force) x1 = z at *
 have k0 := block_cell (j := 0) HW.out rfl
 have k1 := block_cell (j := 1) HW.out rfl
 have k2 := block_cell (j := 2) HW.out rfl
 have k3 := block_cell (j := 3) HW.out rfl
 have k4 := block_cell (j := 4) HW.out rfl
 have k5 := block_cell (j := 5) HW.out rfl
 have k6 := block_cell (j := 6) HW.out rfl
 refine bodyPost_ret (v := .tuple #[.agg #[.slice sa5 X.store.length sc5, .slice ra5 X.refs.length rc5, .int .i64 X.gen, .int .i64 X.phase, .slice oa5 X.pend.objects.length oc5, .slice ua5 X.pend.updates.length uc5, .bool X.pend.force], .int .i64 E]) (by simp [results, Tryz.results55, go_sem]; simp [k0, k1, k2, k3, k4, k5, k6] <;> rfl) rfl ?_
 have hs := (hQb _ hQ1).size
 have hX2 : finR r c = X := HX.out
 have hE2 : finE r c = E := HE.out
 refine ⟨_, _, _, _, by rw [hX2, hE2]; rfl, ?_, HBx.out.trans (HU.out.below (B := w.heap.size) HBx.out.size (fun b hb => by omega))⟩
 rw [hX2]
 exact (RepIs.upd Hr5.out HU.out (fun b hb e => by simp only [World.size_alloc] at hb; omega)).weaken (S' := fun b => w.heap.size ≤ b) (fun b hb => by simp only [World.size_alloc] at hb; omega)
set_option maxRecDepth 100000 in
set_option maxHeartbeats 4000000 in
theorem crash_any (r : Rep) (sv rv ov2 uv2 : Value) (S : Nat → Prop) (w : World) (h : RepIs S w r sv rv ov2 uv2) :
  Calls Tryz.prog 23 #[repV r sv rv ov2 uv2] w fun e w' => RetRepF w w' e (craR r) (repCheck r) := by
 have H := Lib.hid h
 obtain ⟨sa, sc, rfl⟩ := h.store.vshape
 obtain ⟨⟨ra, rc⟩, rfl⟩ := h.refs.shape
 obtain ⟨oa, oc, rfl⟩ := h.objs.vshape
 obtain ⟨⟨ua, uc⟩, rfl⟩ := h.upds.shape
 clear h
 simp only [repV]
 obtain ⟨Q, hQ, hQ1, HB0⟩ := cls_allocs w [.cells #[.slice sa r.store.length sc, .slice ra r.refs.length rc, .int .i64 r.gen, .int .i64 r.phase, .slice oa r.pend.objects.length oc, .slice ua r.pend.updates.length uc, .bool r.pend.force] 28, .cells #[.slice none 0 0, .slice none 0 0, .int .i64 0, .int .i64 0, .slice none 0 0, .slice none 0 0, .bool false] 28]
 simp only [List.foldl] at hQ1
 have hQb := hQ.below
 have HIn := Lib.hid (in_any r r.phase 0 (idleR r) 79 #[] (fun _ => False) (fun _ => True) _ _ _ _ _ _ (H.out.below (hQb _ hQ1)) (fun _ h => h.elim) (fun _ _ _ _ => trivial) (fun _ _ => rfl) (fun h => doesCrash r _))
 simp only [repV] at HIn
 rw [(inC_cra r).1, (inC_cra r).2] at HIn
 have y0 := block_cell (j := 0) (HB0 _ hQ1 0 _ rfl) rfl
 have y1 := block_cell (j := 1) (HB0 _ hQ1 0 _ rfl) rfl
 have y2 := block_cell (j := 2) (HB0 _ hQ1 0 _ rfl) rfl
 have y3 := block_cell (j := 3) (HB0 _ hQ1 0 _ rfl) rfl
 have y4 := block_cell (j := 4) (HB0 _ hQ1 0 _ rfl) rfl
 have y5 := block_cell (j := 5) (HB0 _ hQ1 0 _ rfl) rfl
 have y6 := block_cell (j := 6) (HB0 _ hQ1 0 _ rfl) rfl
 simp only [Nat.add_zero] at y0 y1 y2 y3 y4 y5 y6
 go_enter Tryz.func23, Tryz.ntmps23
 go_wp2_with fail
 refine HIn.out.mono ?_
 rintro e x1 hpost
 obtain ⟨s5, r5, o5, u5, rfl, hr5, hu5, _, _⟩ := hpost
 generalize hX : craR r = X at *
 generalize hE : repCheck r = E at *
 obtain ⟨sa5, sc5, rfl⟩ := hr5.store.vshape
 obtain ⟨⟨ra5, rc5⟩, rfl⟩ := hr5.refs.shape
 obtain ⟨oa5, oc5, rfl⟩ := hr5.objs.vshape
 obtain ⟨⟨ua5, uc5⟩, rfl⟩ := hr5.upds.shape
 have hb1 := below_none hu5
 have hz1 := blk_below (HB0 _ hQ1 1 _ rfl) hb1
 have g0 := block_cell (j := 0) hz1 rfl
 have g1 := block_cell (j := 1) hz1 rfl
 have g2 := block_cell (j := 2) hz1 rfl
 have g3 := block_cell (j := 3) hz1 rfl
 have g4 := block_cell (j := 4) hz1 rfl
 have g5 := block_cell (j := 5) hz1 rfl
 have g6 := block_cell (j := 6) hz1 rfl
 have f0 := block_free (j := 0) hz1
 have f1 := block_free (j := 1) hz1
 have f2 := block_free (j := 2) hz1
 have f3 := block_free (j := 3) hz1
 have f4 := block_free (j := 4) hz1
 have f5 := block_free (j := 5) hz1
 have f6 := block_free (j := 6) hz1
 have HW := Lib.hid (set7_is (v0 := .slice sa5 X.store.length sc5) (v1 := .slice ra5 X.refs.length rc5) (v2 := .int .i64 X.gen) (v3 := .int .i64 X.phase) (v4 := .slice oa5 X.pend.objects.length oc5) (v5 := .slice ua5 X.pend.updates.length uc5) (v6 := .bool X.pend.force) hz1)
 have HU := Lib.hid (set7_upd (w.heap.size + 1) (.slice sa5 X.store.length sc5) (.slice ra5 X.refs.length rc5) (.int .i64 X.gen) (.int .i64 X.phase) (.slice oa5 X.pend.objects.length oc5) (.slice ua5 X.pend.updates.length uc5) (.bool X.pend.force) x1)
 have HBx := Lib.hid (below_next (hQb _ hQ1) hb1)
 have Hr5 := Lib.hid hr5
 have HX := Lib.hid hX
 have HE := Lib.hid hE
 clear hX hE hr5 hu5 hb1 hz1
 simp only [repV]
 go_wp2_with fail
 change bodyPost _ _ _ _ _ (set7 (w.heap.size + 1) (.slice sa5 X.store.length sc5) (.slice ra5 X.refs.length rc5) (.int .i64 X.gen) (.int .i64 X.phase) (.slice oa5 X.pend.objects.length oc5) (.slice ua5 X.pend.updates.length uc5) (.bool X.pend.force) x1)
 generalize set7 (w.heap.size + 1) (.slice sa5 X.store.length sc5) (.slice ra5 X.refs.length rc5) (.int .i64 X.gen) (.int .i64 X.phase) (.slice oa5 X.pend.objects.length oc5) (.slice ua5 X.pend.updates.length uc5) (.bool X.pend.force) x1 = z at *
 have k0 := block_cell (j := 0) HW.out rfl
 have k1 := block_cell (j := 1) HW.out rfl
 have k2 := block_cell (j := 2) HW.out rfl
 have k3 := block_cell (j := 3) HW.out rfl
 have k4 := block_cell (j := 4) HW.out rfl
 have k5 := block_cell (j := 5) HW.out rfl
 have k6 := block_cell (j := 6) HW.out rfl
 refine bodyPost_ret (v := .tuple #[.agg #[.slice sa5 X.store.length sc5, .slice ra5 X.refs.length rc5, .int .i64 X.gen, .int .i64 X.phase, .slice oa5 X.pend.objects.length oc5, .slice ua5 X.pend.updates.length uc5, .bool X.pend.force], .int .i64 E]) (by simp [results, Tryz.results23, go_sem]; simp [k0, k1, k2, k3, k4, k5, k6] <;> rfl) rfl ?_
 have hs := (hQb _ hQ1).size
 have hX2 : craR r = X := HX.out
 have hE2 : repCheck r = E := HE.out
 refine ⟨_, _, _, _, by rw [hX2, hE2]; rfl, ?_, HBx.out.trans (HU.out.below (B := w.heap.size) HBx.out.size (fun b hb => by omega))⟩
 rw [hX2]
 exact (RepIs.upd Hr5.out HU.out (fun b hb e => by simp only [World.size_alloc] at hb; omega)).weaken (S' := fun b => w.heap.size ≤ b) (fun b hb => by simp only [World.size_alloc] at hb; omega)
set_option maxRecDepth 100000 in
set_option maxHeartbeats 4000000 in
theorem vote_any (r : Rep) (sv rv ov2 uv2 : Value) (S : Nat → Prop) (w : World) (h : RepIs S w r sv rv ov2 uv2) (ht : Tab w) :
  Calls Tryz.prog 54 #[repV r sv rv ov2 uv2] w fun e w' => ∃ svt rvt ovt uvt, e = .returned (.tuple #[repV (votR r) svt rvt ovt uvt, .string (votS r), .int .i64 (inE r 1)]) ∧ RepIs (fun b => w.heap.size ≤ b) w' (votR r) svt rvt ovt uvt ∧ Below w.heap.size w w' := by
 have H := Lib.hid h
 have HTb := Lib.hid ht
 obtain ⟨sa, sc, rfl⟩ := h.store.vshape
 obtain ⟨⟨ra, rc⟩, rfl⟩ := h.refs.shape
 obtain ⟨oa, oc, rfl⟩ := h.objs.vshape
 obtain ⟨⟨ua, uc⟩, rfl⟩ := h.upds.shape
 clear h ht
 simp only [repV]
 obtain ⟨Q, hQ, hQ1, HB0⟩ := cls_allocs w [.cells #[.slice sa r.store.length sc, .slice ra r.refs.length rc, .int .i64 r.gen, .int .i64 r.phase, .slice oa r.pend.objects.length oc, .slice ua r.pend.updates.length uc, .bool r.pend.force] 28, .cells #[.slice none 0 0, .slice none 0 0, .int .i64 0, .int .i64 0, .slice none 0 0, .slice none 0 0, .bool false] 28, .cells #[.string ByteArray.empty] 9]
 simp only [List.foldl] at hQ1
 have hQb := hQ.below
 have HIn := Lib.hid (in_any r 1 0 (votedR r) 116 #[.pointer (some ⟨w.heap.size + 2, 0, none⟩)] (fun b => b = w.heap.size + 2) (fun y => y.cell? ⟨w.heap.size + 2, 0, none⟩ = some (.string (voteR r r.pend))) _ _ _ _ _ _ (H.out.below (hQb _ hQ1)) (fun b hb => by subst hb; exact lt_of_block (HB0 _ hQ1 2 _ rfl)) (fun y z hy hu => hu.cell hy (by have := lt_of_block (HB0 _ hQ1 2 _ rfl); show ¬ _ ≤ w.heap.size + 2; omega)) (fun _ _ => rfl) (fun h => doesVote r _ _ (HB0 _ hQ1 2 _ rfl) (inE_held h (by decide)).1 (inE_held h (by decide)).2 (HTb.out.below (hQb _ hQ1))))
 simp only [repV] at HIn
 rw [(inC_vot r).1, (inC_vot r).2] at HIn
 have y0 := block_cell (j := 0) (HB0 _ hQ1 0 _ rfl) rfl
 have y1 := block_cell (j := 1) (HB0 _ hQ1 0 _ rfl) rfl
 have y2 := block_cell (j := 2) (HB0 _ hQ1 0 _ rfl) rfl
 have y3 := block_cell (j := 3) (HB0 _ hQ1 0 _ rfl) rfl
 have y4 := block_cell (j := 4) (HB0 _ hQ1 0 _ rfl) rfl
 have y5 := block_cell (j := 5) (HB0 _ hQ1 0 _ rfl) rfl
 have y6 := block_cell (j := 6) (HB0 _ hQ1 0 _ rfl) rfl
 simp only [Nat.add_zero] at y0 y1 y2 y3 y4 y5 y6
 go_enter Tryz.func54, Tryz.ntmps54
 go_wp2_with fail
 refine HIn.out.mono ?_
 rintro e x1 ⟨s5, r5, o5, u5, rfl, hr5, hu5, hk5, hn5⟩
 have hS : x1.cell? ⟨w.heap.size + 2, 0, none⟩ = some (.string (votS r)) := by
  unfold votS
  by_cases hz : inE r 1 = 0
  ·rw [if_pos hz]; exact hk5 hz
  ·rw [if_neg hz]; exact block_cell (blk_below (HB0 _ hQ1 2 _ rfl) (hn5 hz)) rfl
 have hz1 := hu5.blk (HB0 _ hQ1 1 _ rfl) (by omega)
 have hUw : Upd (fun b => b = w.heap.size + 2) w x1 := (upd_none (hQb _ hQ1)).weaken (fun _ _ h => h.elim) |>.trans hu5 (fun b hb e => e)
 have hB1 : Below w.heap.size w x1 := ⟨hUw.os, hUw.tape, hUw.output, hUw.size, fun b hb => hUw.block b hb (by omega)⟩
 generalize hX : votR r = X at *
 obtain ⟨sa5, sc5, rfl⟩ := hr5.store.vshape
 obtain ⟨⟨ra5, rc5⟩, rfl⟩ := hr5.refs.shape
 obtain ⟨oa5, oc5, rfl⟩ := hr5.objs.vshape
 obtain ⟨⟨ua5, uc5⟩, rfl⟩ := hr5.upds.shape
 have hs1 := hu5.size
 simp only [World.size_alloc] at hs1
 have hr6 := (RepIs.below hr5 ((Below.refl _ _).alloc (Nat.le_refl _) (.cells #[.slice sa5 X.store.length sc5, .slice ra5 X.refs.length rc5, .int .i64 X.gen, .int .i64 X.phase, .slice oa5 X.pend.objects.length oc5, .slice ua5 X.pend.updates.length uc5, .bool X.pend.force] 28))).weaken (S' := fun b => w.heap.size + 3 ≤ b) (fun b hb => by simp only [World.size_alloc] at hb; omega)
 have hz6 := blk_below hz1 ((Below.refl _ _).alloc (Nat.le_refl _) (.cells #[.slice sa5 X.store.length sc5, .slice ra5 X.refs.length rc5, .int .i64 X.gen, .int .i64 X.phase, .slice oa5 X.pend.objects.length oc5, .slice ua5 X.pend.updates.length uc5, .bool X.pend.force] 28))
 have hS6 := below_cell ((Below.refl x1.heap.size x1).alloc (Nat.le_refl _) (.cells #[.slice sa5 X.store.length sc5, .slice ra5 X.refs.length rc5, .int .i64 X.gen, .int .i64 X.phase, .slice oa5 X.pend.objects.length oc5, .slice ua5 X.pend.updates.length uc5, .bool X.pend.force] 28)) hS
 have hB6 := hB1.alloc hB1.size (.cells #[.slice sa5 X.store.length sc5, .slice ra5 X.refs.length rc5, .int .i64 X.gen, .int .i64 X.phase, .slice oa5 X.pend.objects.length oc5, .slice ua5 X.pend.updates.length uc5, .bool X.pend.force] 28)
 have hX6 := heap_alloc_new x1 (.cells #[.slice sa5 X.store.length sc5, .slice ra5 X.refs.length rc5, .int .i64 X.gen, .int .i64 X.phase, .slice oa5 X.pend.objects.length oc5, .slice ua5 X.pend.updates.length uc5, .bool X.pend.force] 28)
 have Hr6 := Lib.hid hr6
 have Hz6 := Lib.hid hz6
 have HS6 := Lib.hid hS6
 have HB6 := Lib.hid hB6
 have HX6 := Lib.hid hX6
 have HX := Lib.hid hX
 clear hr6 hz6 hS6 hB6 hX6 hX hS hz1 hr5 hu5 hk5 hn5 hUw hB1 y0 y1 y2 y3 y4 y5 y6 HIn
 simp only [repV]
 go_wp2_with fail
 generalize x1.alloc (.cells #[.slice sa5 X.store.length sc5, .slice ra5 X.refs.length rc5, .int .i64 X.gen, .int .i64 X.phase, .slice oa5 X.pend.objects.length oc5, .slice ua5 X.pend.updates.length uc5, .bool X.pend.force] 28) = x2 at *
 have hX6 := HX6.out
 have HD6 := Lib.hid (show w.heap.size + 3 ≤ x1.heap.size from hs1)
 clear hs1
 generalize x1.heap.size = D at *
 obtain ⟨R, hR, hR1, _⟩ := cls_plain x2
 have hRb := hR.below
 have hbd : Below x2.heap.size x2 x2.drew := (Below.refl _ _).drew
 obtain ⟨C, hC0, hCp, hCi⟩ := as_class (fun z : World => z.heap[D]? = some (.cells #[.slice sa5 X.store.length sc5, .slice ra5 X.refs.length rc5, .int .i64 X.gen, .int .i64 X.phase, .slice oa5 X.pend.objects.length oc5, .slice ua5 X.pend.updates.length uc5, .bool X.pend.force] 28 (0, 0)) ∧ z.cell? ⟨w.heap.size + 2, 0, none⟩ = some (.string (votS r))) (x := x2.drew) (And.intro (blk_below hX6 hbd) (below_cell hbd HS6.out))
 have HCi := Lib.hid hCi
 clear hCi
 refine wp_region_held (S := In C) (by kernel_rfl) ?_
 change wpAnyH _ _ _ _ _ _ _ _ (World.drew _)
 have Hz7 := Lib.hid (blk_below Hz6.out hbd)
 have Hr7 := Lib.hid (Hr6.out.below hbd)
 have HB7 := Lib.hid (HB6.out.drew)
 clear Hz6 Hr6 HB6 HS6 HX6 hX6 hbd
 generalize x2.drew = x0 at *
 refine wpAnyH_take (i := 0) (v := .agg #[.slice sa5 X.store.length sc5, .slice ra5 X.refs.length rc5, .int .i64 X.gen, .int .i64 X.phase, .slice oa5 X.pend.objects.length oc5, .slice ua5 X.pend.updates.length uc5, .bool X.pend.force]) rfl (by kernel_rfl) (by kernel_rfl) (by kernel_rfl) (fun _ _ _ h => h) (Or.inl ⟨by rfl, fun w hSw => ?_⟩) hC0 ?_
 ·have z0 := block_cell (j := 0) (hCp _ hSw).1 rfl; have z1 := block_cell (j := 1) (hCp _ hSw).1 rfl; have z2 := block_cell (j := 2) (hCp _ hSw).1 rfl; have z3 := block_cell (j := 3) (hCp _ hSw).1 rfl; have z4 := block_cell (j := 4) (hCp _ hSw).1 rfl; have z5 := block_cell (j := 5) (hCp _ hSw).1 rfl; have z6 := block_cell (j := 6) (hCp _ hSw).1 rfl; go_simp
 simp only [Act.put, List.getElem_toArray, List.getElem_cons_zero, List.getElem_cons_succ, List.setIfInBounds_toArray, List.set_cons_zero, List.set_cons_succ]
 refine wpAnyH_take (i := 1) (v := .string (votS r)) rfl (by kernel_rfl) (by kernel_rfl) (by kernel_rfl) (fun _ _ _ h => h) (Or.inl ⟨by rfl, fun w hSw => ?_⟩) hC0 ?_
 ·have z0 := (hCp _ hSw).2; go_simp
 simp only [Act.put, List.getElem_toArray, List.getElem_cons_zero, List.getElem_cons_succ, List.setIfInBounds_toArray, List.set_cons_zero, List.set_cons_succ]
 refine wpAnyH_take (i := 2) (v := .int .i64 (inE r 1)) rfl (by kernel_rfl) (by kernel_rfl) (by kernel_rfl) (fun _ _ _ h => h) (Or.inl ⟨by rfl, fun w hSw => ?_⟩) hC0 ?_
 ·go_simp
 simp only [Act.put, List.getElem_toArray, List.getElem_cons_zero, List.getElem_cons_succ, List.setIfInBounds_toArray, List.set_cons_zero, List.set_cons_succ]
 refine wpAnyH_all (rs := [3]) (by kernel_rfl) (by simp) (fun j hj => ?_)
 obtain rfl : j = 3 := by simpa using hj
 refine Or.inl ?_
 have hz7 := Hz7.out
 have g0 := block_cell (j := 0) hz7 rfl
 have g1 := block_cell (j := 1) hz7 rfl
 have g2 := block_cell (j := 2) hz7 rfl
 have g3 := block_cell (j := 3) hz7 rfl
 have g4 := block_cell (j := 4) hz7 rfl
 have g5 := block_cell (j := 5) hz7 rfl
 have g6 := block_cell (j := 6) hz7 rfl
 have f0 := block_free (j := 0) hz7
 have f1 := block_free (j := 1) hz7
 have f2 := block_free (j := 2) hz7
 have f3 := block_free (j := 3) hz7
 have f4 := block_free (j := 4) hz7
 have f5 := block_free (j := 5) hz7
 have f6 := block_free (j := 6) hz7
 have HW := Lib.hid (set7_is (v0 := .slice sa5 X.store.length sc5) (v1 := .slice ra5 X.refs.length rc5) (v2 := .int .i64 X.gen) (v3 := .int .i64 X.phase) (v4 := .slice oa5 X.pend.objects.length oc5) (v5 := .slice ua5 X.pend.updates.length uc5) (v6 := .bool X.pend.force) hz7)
 have HU := Lib.hid (set7_upd (w.heap.size + 1) (.slice sa5 X.store.length sc5) (.slice ra5 X.refs.length rc5) (.int .i64 X.gen) (.int .i64 X.phase) (.slice oa5 X.pend.objects.length oc5) (.slice ua5 X.pend.updates.length uc5) (.bool X.pend.force) x0)
 have hC7 := HCi.out _ (And.intro (HU.out.blk (hCp _ hC0).1 (by have := HD6.out; omega)) (HU.out.cell (hCp _ hC0).2 (by show ¬ w.heap.size + 2 = w.heap.size + 1; omega)))
 clear hz7
 go_wp2_with fail
 first | refine ⟨hC7, ?_⟩ | skip
 change wpAnyH _ _ _ _ _ _ _ _ (set7 (w.heap.size + 1) (.slice sa5 X.store.length sc5) (.slice ra5 X.refs.length rc5) (.int .i64 X.gen) (.int .i64 X.phase) (.slice oa5 X.pend.objects.length oc5) (.slice ua5 X.pend.updates.length uc5) (.bool X.pend.force) x0)
 have hC1 := hC7
 generalize set7 (w.heap.size + 1) (.slice sa5 X.store.length sc5) (.slice ra5 X.refs.length rc5) (.int .i64 X.gen) (.int .i64 X.phase) (.slice oa5 X.pend.objects.length oc5) (.slice ua5 X.pend.updates.length uc5) (.bool X.pend.force) x0 = x1 at *
 refine wpAnyH_take (i := 4) (v := .string (votS r)) rfl (by kernel_rfl) (by kernel_rfl) (by kernel_rfl) (fun _ _ _ h => h) (Or.inl ⟨by rfl, fun w hSw => ?_⟩) hC1 ?_
 ·go_simp
 simp only [Act.put, List.getElem_toArray, List.getElem_cons_zero, List.getElem_cons_succ, List.setIfInBounds_toArray, List.set_cons_zero, List.set_cons_succ]
 refine wpAnyH_take (i := 5) (v := .int .i64 (inE r 1)) rfl (by kernel_rfl) (by kernel_rfl) (by kernel_rfl) (fun _ _ _ h => h) (Or.inl ⟨by rfl, fun w hSw => ?_⟩) hC1 ?_
 ·go_simp
 simp only [Act.put, List.getElem_toArray, List.getElem_cons_zero, List.getElem_cons_succ, List.setIfInBounds_toArray, List.set_cons_zero, List.set_cons_succ]
 first | refine wpAnyH_done (by kernel_rfl) ?_ _ | refine ⟨by kernel_rfl, ?_⟩
 go_wp2_with fail
 have k0 := block_cell (j := 0) HW.out rfl
 have k1 := block_cell (j := 1) HW.out rfl
 have k2 := block_cell (j := 2) HW.out rfl
 have k3 := block_cell (j := 3) HW.out rfl
 have k4 := block_cell (j := 4) HW.out rfl
 have k5 := block_cell (j := 5) HW.out rfl
 have k6 := block_cell (j := 6) HW.out rfl
 refine bodyPost_ret (v := .tuple #[.agg #[.slice sa5 X.store.length sc5, .slice ra5 X.refs.length rc5, .int .i64 X.gen, .int .i64 X.phase, .slice oa5 X.pend.objects.length oc5, .slice ua5 X.pend.updates.length uc5, .bool X.pend.force], .string (votS r), .int .i64 (inE r 1)]) (by simp [results, Tryz.results54, go_sem]; simp [k0, k1, k2, k3, k4, k5, k6] <;> rfl) rfl ?_
 rw [HX.out]
 refine ⟨_, _, _, _, by rfl, (RepIs.upd Hr7.out HU.out (fun b hb e => by omega)).weaken (S' := fun b => w.heap.size ≤ b) (fun b hb => by omega), HB7.out.trans (HU.out.below (B := w.heap.size) HB7.out.size (fun b hb => by omega))⟩
end Go.Proofs.YtjdgpgfiomnjkaaGreatDoor
