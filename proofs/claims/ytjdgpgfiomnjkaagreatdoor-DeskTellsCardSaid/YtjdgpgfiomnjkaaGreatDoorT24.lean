/- StepA: StepA, StepB, StepC. -/
import Derived.Test.YtjdgpgfiomnjkaaGreatDoorT21
set_option linter.all false
set_option maxHeartbeats 4000000
set_option maxRecDepth 100000
namespace Go.Proofs.YtjdgpgfiomnjkaaGreatDoor
open Go.RowKit
def Po (b : Nat) (v3 v4 v5 v6 : Value) (w : World) : World := (((w.setCell ⟨b, 3, none⟩ v3).setCell ⟨b, 4, none⟩ v4).setCell ⟨b, 5, none⟩ v5).setCell ⟨b, 6, none⟩ v6
theorem Tu {b : Nat} {v3 v4 v5 v6 u0 u1 u2 u3 u4 u5 u6 : Value} {t : TypeId} {w : World} (h0 : w.heap[b]? = some (.cells #[u0, u1, u2, u3, u4, u5, u6] t (0, 0))) :
  (Po b v3 v4 v5 v6 w).heap[b]? = some (.cells #[u0, u1, u2, v3, v4, v5, v6] t (0, 0)) := by
 have s3 : (w.setCell ⟨b, 3, none⟩ v3).heap[b]? = some (.cells #[u0, u1, u2, v3, u4, u5, u6] t (0, 0)) := by have := Ad (j := 3) h0 v3; simpa using this
 have s4 : ((w.setCell ⟨b, 3, none⟩ v3).setCell ⟨b, 4, none⟩ v4).heap[b]? = some (.cells #[u0, u1, u2, v3, v4, u5, u6] t (0, 0)) := by have := Ad (j := 4) s3 v4; simpa using this
 have s5 : (((w.setCell ⟨b, 3, none⟩ v3).setCell ⟨b, 4, none⟩ v4).setCell ⟨b, 5, none⟩ v5).heap[b]? = some (.cells #[u0, u1, u2, v3, v4, v5, u6] t (0, 0)) := by have := Ad (j := 5) s4 v5; simpa using this
 have s6 : ((((w.setCell ⟨b, 3, none⟩ v3).setCell ⟨b, 4, none⟩ v4).setCell ⟨b, 5, none⟩ v5).setCell ⟨b, 6, none⟩ v6).heap[b]? = some (.cells #[u0, u1, u2, v3, v4, v5, v6] t (0, 0)) := by have := Ad (j := 6) s5 v6; simpa using this
 exact s6
theorem KC (b : Nat) (v3 v4 v5 v6 : Value) (w : World) : Av (fun x => x = b) w (Po b v3 v4 v5 v6 w) :=
 Av.setCell (T := fun x => x = b) (Av.setCell (T := fun x => x = b) (Av.setCell (T := fun x => x = b) (Av.setCell (T := fun x => x = b) (Av.refl (fun x => x = b) w) (fun _ => rfl) v3) (fun _ => rfl) v4) (fun _ => rfl) v5) (fun _ => rfl) v6
def Dy (P : Nat → Prop) (D : Nat) (w : World) (r : An) : Prop :=
 ∃ sa sc ra rc oa oc ua uc, w.heap[D]? = some (.cells #[.slice sa r.store.length sc, .slice ra r.refs.length rc, .int .i64 r.gen, .int .i64 r.phase, .slice oa r.pend.objects.length oc, .slice ua r.pend.updates.length uc, .bool r.pend.force] 120 (0, 0)) ∧
  AH P w r (.slice sa r.store.length sc) (.slice ra r.refs.length rc) (.slice oa r.pend.objects.length oc) (.slice ua r.pend.updates.length uc)
theorem Dy.below {P : Nat → Prop} {D : Nat} {w w' : World} {r : An} (h : Dy P D w r) (hb : Below w.heap.size w w') : Dy P D w' r := by
 obtain ⟨sa, sc, ra, rc, oa, oc, ua, uc, h1, h2⟩ := h
 exact ⟨sa, sc, ra, rc, oa, oc, ua, uc, Ak h1 hb, h2.below hb⟩
theorem Dy.upd {P T : Nat → Prop} {D : Nat} {w w' : World} {r : An} (h : Dy P D w r) (hu : Av T w w') (hD : ¬ T D) (hP : ∀ b, P b → ¬ T b) : Dy P D w' r := by
 obtain ⟨sa, sc, ra, rc, oa, oc, ua, uc, h1, h2⟩ := h
 exact ⟨sa, sc, ra, rc, oa, oc, ua, uc, hu.blk h1 hD, AH.upd h2 hu hP⟩
theorem Dy.weaken {P P' : Nat → Prop} {D : Nat} {w : World} {r : An} (h : Dy P D w r) (hP : ∀ b, P b → P' b) : Dy P' D w r := by
 obtain ⟨sa, sc, ra, rc, oa, oc, ua, uc, h1, h2⟩ := h
 exact ⟨sa, sc, ra, rc, oa, oc, ua, uc, h1, h2.weaken hP⟩
theorem Dy.lt {P : Nat → Prop} {D : Nat} {w : World} {r : An} (h : Dy P D w r) : D < w.heap.size := let ⟨_, _, _, _, _, _, _, _, h1, _⟩ := h; lt_of_block h1
theorem FF (r : An) (P : Nat → Prop) (D : Nat) (w : World) (h : Dy P D w r) (hP : ∀ b, P b → b ≠ D) :
  Calls Tryz.prog 80 #[.pointer (some ⟨D, 0, none⟩)] w fun e y => e = .returned (.tuple #[]) ∧ Dy P D y (DD r) ∧ Av (fun b => b = D) w y := by
 obtain ⟨sa, sc, ra, rc, oa, oc, ua, uc, hblk, hr⟩ := h
 have HE := zh (show Dy P D (Po D (.int .i64 0) (.slice none 0 0) (.slice none 0 0) (.bool false) w) (DD r) ∧ Av (fun b => b = D) w (Po D (.int .i64 0) (.slice none 0 0) (.slice none 0 0) (.bool false) w) from
  ⟨⟨sa, sc, ra, rc, none, 0, none, 0, Tu hblk, ⟨hr.store.upd' (KC _ _ _ _ _ _) hP, hr.refs.upd (KC _ _ _ _ _ _) hP, Ah.nil _ _ _ _ (by omega), AM.nil _ _ _ _ (by omega), hr.gen, by show DL 0; unfold DL; decide⟩⟩, KC _ _ _ _ _ _⟩)
 clear hr
 have g0 := Aa (j := 0) hblk rfl
 have g1 := Aa (j := 1) hblk rfl
 have g2 := Aa (j := 2) hblk rfl
 have g3 := Aa (j := 3) hblk rfl
 have g4 := Aa (j := 4) hblk rfl
 have g5 := Aa (j := 5) hblk rfl
 have g6 := Aa (j := 6) hblk rfl
 have f0 := Ab (j := 0) hblk
 have f1 := Ab (j := 1) hblk
 have f2 := Ab (j := 2) hblk
 have f3 := Ab (j := 3) hblk
 have f4 := Ab (j := 4) hblk
 have f5 := Ab (j := 5) hblk
 have f6 := Ab (j := 6) hblk
 clear hblk
 go_enter Tryz.func80, Tryz.ntmps80
 go_wp2_with fail
 change bodyPost _ _ _ _ _ (Po D (.int .i64 0) (.slice none 0 0) (.slice none 0 0) (.bool false) w)
 go_end0
 exact ⟨rfl, HE.out.1, HE.out.2⟩
def PY (g : Nat) (cs : Array Value) (w : World) (T : Nat → Prop) (K : World → Prop) (r : An) (E : Int) (R : An) : Prop :=
 ∀ (x : World) (D B : Nat), Below w.heap.size w x → w.heap.size ≤ B → B ≤ D → Dy (fun b => B ≤ b ∧ b ≠ D) D x r →
  Calls Tryz.prog g (#[.pointer (some ⟨D, 0, none⟩)] ++ cs) x fun e y => e = .returned (.int .i64 E) ∧ (E = 0 → Dy (fun b => B ≤ b ∧ b ≠ D) D y R) ∧ Av (fun b => b = D ∨ T b) x y ∧ K y
def Rw (r : An) (ph E : Int) : Int := if Im r ph ≠ 0 then Im r ph else E
def To (r : An) (ph E : Int) (R : An) : An := if Rw r ph E = 0 then R else Ds
theorem Pv (r : An) (ph E : Int) (R : An) (g : Nat) (cs : Array Value) (T : Nat → Prop) (K : World → Prop) (sv rv ov uv : Value) (S : Nat → Prop) (w : World) (h : AH S w r sv rv ov uv) (hT : ∀ b, T b → b < w.heap.size)
  (hK : ∀ y z, K y → Av (fun b => w.heap.size ≤ b) y z → K z) (eg : ∀ args w, (callFunc g args).run Tryz.prog w = .ok (.enter g args) w) (hd : Im r ph = 0 → PY g cs w T K r E R) :
  Calls Tryz.prog 76 #[Bf r sv rv ov uv, .int .i64 ph, .func (.func g) #[] cs] w fun e w' => ∃ svt rvt ovt uvt, e = .returned (.tuple #[Bf (To r ph E R) svt rvt ovt uvt, .int .i64 (Rw r ph E)]) ∧
   AH (fun b => w.heap.size ≤ b) w' (To r ph E R) svt rvt ovt uvt ∧ Av T w w' ∧ (Im r ph = 0 → K w') ∧ (Im r ph ≠ 0 → Below w.heap.size w w') := by
 have H := zh h
 have HT := zh hT
 have HK := zh hK
 have HD := zh hd
 obtain ⟨sa, sc, rfl⟩ := h.store.vshape
 obtain ⟨⟨ra, rc⟩, rfl⟩ := h.refs.shape
 obtain ⟨oa, oc, rfl⟩ := h.objs.vshape
 obtain ⟨⟨ua, uc⟩, rfl⟩ := h.upds.shape
 clear h hT hK hd
 simp only [Bf]
 obtain ⟨Q, hQ, hQ1, HB0⟩ := AI w [.cells (c7 r sa sc ra rc oa oc ua uc) 28, .cells z7 28]
 simp only [List.foldl] at hQ1
 have hQn := hQ.next
 have hQb := hQ.below
 have HZ := zh (fun x (hx : In Q x) => show x.heap[w.heap.size + 1]? = some (.cells z7 28 (0, 0)) from HB0 x hx 1 _ rfl)
 have HC := zh (fun x (hx : In Q x) => KG r _ _ _ _ _ x (H.out.below (hQb _ hx)))
 have HO := zh (fun x (hx : In Q x) => MB r _ _ _ _ _ x (H.out.below (hQb _ hx)))
 simp only [Bf] at HC HO
 have y0 := fun x (hx : In Q x) => Aa (j := 0) (HB0 x hx 0 _ rfl) rfl
 have y1 := fun x (hx : In Q x) => Aa (j := 1) (HB0 x hx 0 _ rfl) rfl
 have y2 := fun x (hx : In Q x) => Aa (j := 2) (HB0 x hx 0 _ rfl) rfl
 have y3 := fun x (hx : In Q x) => Aa (j := 3) (HB0 x hx 0 _ rfl) rfl
 have y4 := fun x (hx : In Q x) => Aa (j := 4) (HB0 x hx 0 _ rfl) rfl
 have y5 := fun x (hx : In Q x) => Aa (j := 5) (HB0 x hx 0 _ rfl) rfl
 have y6 := fun x (hx : In Q x) => Aa (j := 6) (HB0 x hx 0 _ rfl) rfl
 simp only [Nat.add_zero] at y0 y1 y2 y3 y4 y5 y6
 have Hsz := zh (fun x (hx : In Q x) => show w.heap.size + 2 ≤ x.heap.size from lt_of_block (HZ.out x hx))
 clear HB0
 by_cases hc : Al r = 0
 case neg =>
  have HNE := zh (show Im r ph ≠ 0 by rw [OH hc]; exact hc)
  have HCC := zh (show Rw r ph E = Al r by unfold Rw; rw [if_pos HNE.out]; exact OH hc)
  have HRR := zh (show To r ph E R = Ds by unfold To; rw [HCC.out, if_neg hc])
  have q1 : (Al r == 0) = false := by simpa using hc
  have q2 : (Al r != 0) = true := by simpa using hc
  clear hc HD
  generalize Al r = c at *
  go_enter Tryz.func76, Tryz.ntmps76
  have c0 := y0 _ hQ1
  have c1 := y1 _ hQ1
  have c2 := y2 _ hQ1
  have c3 := y3 _ hQ1
  have c4 := y4 _ hQ1
  have c5 := y5 _ hQ1
  have c6 := y6 _ hQ1
  go_wp2_with fail
  refine (HC.out _ hQ1).mono ?_
  rintro e x1 ⟨rfl, hb1⟩
  have hQ2 := hQn _ _ hQ1 hb1
  clear hb1 c0 c1 c2 c3 c4 c5 c6
  have a0 := y0 _ hQ2
  have a1 := y1 _ hQ2
  have a2 := y2 _ hQ2
  have a3 := y3 _ hQ2
  have a4 := y4 _ hQ2
  have a5 := y5 _ hQ2
  have a6 := y6 _ hQ2
  go_wp2_with fail
  refine (HO.out _ hQ2).mono ?_
  rintro e x2 ⟨sv2, rv2, ov2, uv2, rfl, hr2, hb2⟩
  have hQ3 := hQn _ _ hQ2 hb2
  obtain ⟨Lu, NX, rfl⟩ := hr2.store.vshape
  obtain ⟨⟨ra2, rc2⟩, rfl⟩ := hr2.refs.shape
  obtain ⟨oa2, oc2, rfl⟩ := hr2.objs.vshape
  obtain ⟨⟨ua2, uc2⟩, rfl⟩ := hr2.upds.shape
  clear hb2 hr2 a0 a1 a2 a3 a4 a5 a6
  simp only [Bf]
  have hQ4 := hQ.alloc _ (.cells (c7 r Lu NX ra2 rc2 oa2 oc2 ua2 uc2) 120) hQ3
  have hblk := HZ.out _ hQ4
  have g0 := Aa (j := 0) hblk rfl
  have g1 := Aa (j := 1) hblk rfl
  have g2 := Aa (j := 2) hblk rfl
  have g3 := Aa (j := 3) hblk rfl
  have g4 := Aa (j := 4) hblk rfl
  have g5 := Aa (j := 5) hblk rfl
  have g6 := Aa (j := 6) hblk rfl
  have f0 := Ab (j := 0) hblk
  have f1 := Ab (j := 1) hblk
  have f2 := Ab (j := 2) hblk
  have f3 := Ab (j := 3) hblk
  have f4 := Ab (j := 4) hblk
  have f5 := Ab (j := 5) hblk
  have f6 := Ab (j := 6) hblk
  have HW := zh (Bz (v0 := .slice none 0 0) (v1 := .slice none 0 0) (v2 := .int .i64 0) (v3 := .int .i64 0) (v4 := .slice none 0 0) (v5 := .slice none 0 0) (v6 := .bool false) hblk)
  have HU := zh (AY (w.heap.size + 1) (.slice none 0 0) (.slice none 0 0) (.int .i64 0) (.int .i64 0) (.slice none 0 0) (.slice none 0 0) (.bool false) (x2.alloc (.cells (c7 r Lu NX ra2 rc2 oa2 oc2 ua2 uc2) 120)))
  have HB4 := zh (hQb _ hQ4)
  clear hblk
  go_wp2_with fail
  change bodyPost _ _ _ _ _ (Bt (w.heap.size + 1) (.slice none 0 0) (.slice none 0 0) (.int .i64 0) (.int .i64 0) (.slice none 0 0) (.slice none 0 0) (.bool false) (x2.alloc (.cells (c7 r Lu NX ra2 rc2 oa2 oc2 ua2 uc2) 120)))
  generalize x2.alloc (.cells (c7 r Lu NX ra2 rc2 oa2 oc2 ua2 uc2) 120) = x3 at *
  generalize Bt (w.heap.size + 1) (.slice none 0 0) (.slice none 0 0) (.int .i64 0) (.int .i64 0) (.slice none 0 0) (.slice none 0 0) (.bool false) x3 = x4 at *
  have k0 := Aa (j := 0) HW.out rfl
  have k1 := Aa (j := 1) HW.out rfl
  have k2 := Aa (j := 2) HW.out rfl
  have k3 := Aa (j := 3) HW.out rfl
  have k4 := Aa (j := 4) HW.out rfl
  have k5 := Aa (j := 5) HW.out rfl
  have k6 := Aa (j := 6) HW.out rfl
  refine bodyPost_ret (v := .tuple #[.agg z7, .int .i64 c]) (by simp [results, Tryz.results76, go_sem]; simp [k0, k1, k2, k3, k4, k5, k6] <;> rfl) rfl ?_
  have hs := HB4.out.size
  have hbe : Below w.heap.size w x4 := HB4.out.trans (HU.out.below (B := w.heap.size) hs (fun b hb => by omega))
  refine ⟨.slice none 0 0, .slice none 0 0, .slice none 0 0, .slice none 0 0, by rw [HRR.out, HCC.out]; rfl, by rw [HRR.out]; exact El _ _, ?_, fun h => absurd h HNE.out, fun _ => hbe⟩
  exact ⟨hbe.os, hbe.tape, hbe.output, hbe.size, fun b hb _ => hbe.block b hb⟩
 rw [hc] at HC
 by_cases hp : r.phase = ph
 case neg =>
  have HIE := zh (Xe hc hp)
  have HNE := zh (show Im r ph ≠ 0 by rw [HIE.out]; decide)
  have HCC := zh (show Rw r ph E = 4 by unfold Rw; rw [if_pos HNE.out]; exact HIE.out)
  have HRR := zh (show To r ph E R = Ds by unfold To; rw [HCC.out]; rfl)
  have q1 : (r.phase != ph) = true := by simpa using hp
  clear hc hp HD HIE
  go_enter Tryz.func76, Tryz.ntmps76
  have c0 := y0 _ hQ1
  have c1 := y1 _ hQ1
  have c2 := y2 _ hQ1
  have c3 := y3 _ hQ1
  have c4 := y4 _ hQ1
  have c5 := y5 _ hQ1
  have c6 := y6 _ hQ1
  go_wp2_with fail
  refine (HC.out _ hQ1).mono ?_
  rintro e x1 ⟨rfl, hb1⟩
  have hQ2 := hQn _ _ hQ1 hb1
  clear hb1 c0 c1 c2 c3 c4 c5 c6
  have a0 := y0 _ hQ2
  have a1 := y1 _ hQ2
  have a2 := y2 _ hQ2
  have a3 := y3 _ hQ2
  have a4 := y4 _ hQ2
  have a5 := y5 _ hQ2
  have a6 := y6 _ hQ2
  go_wp2_with fail
  refine (HO.out _ hQ2).mono ?_
  rintro e x2 ⟨sv2, rv2, ov2, uv2, rfl, hr2, hb2⟩
  have hQ3 := hQn _ _ hQ2 hb2
  obtain ⟨Lu, NX, rfl⟩ := hr2.store.vshape
  obtain ⟨⟨ra2, rc2⟩, rfl⟩ := hr2.refs.shape
  obtain ⟨oa2, oc2, rfl⟩ := hr2.objs.vshape
  obtain ⟨⟨ua2, uc2⟩, rfl⟩ := hr2.upds.shape
  clear hb2 hr2 a0 a1 a2 a3 a4 a5 a6
  simp only [Bf]
  have hQ4 := hQ.alloc _ (.cells (c7 r Lu NX ra2 rc2 oa2 oc2 ua2 uc2) 120) hQ3
  have hblk := HZ.out _ hQ4
  have g0 := Aa (j := 0) hblk rfl
  have g1 := Aa (j := 1) hblk rfl
  have g2 := Aa (j := 2) hblk rfl
  have g3 := Aa (j := 3) hblk rfl
  have g4 := Aa (j := 4) hblk rfl
  have g5 := Aa (j := 5) hblk rfl
  have g6 := Aa (j := 6) hblk rfl
  have f0 := Ab (j := 0) hblk
  have f1 := Ab (j := 1) hblk
  have f2 := Ab (j := 2) hblk
  have f3 := Ab (j := 3) hblk
  have f4 := Ab (j := 4) hblk
  have f5 := Ab (j := 5) hblk
  have f6 := Ab (j := 6) hblk
  have HW := zh (Bz (v0 := .slice none 0 0) (v1 := .slice none 0 0) (v2 := .int .i64 0) (v3 := .int .i64 0) (v4 := .slice none 0 0) (v5 := .slice none 0 0) (v6 := .bool false) hblk)
  have HU := zh (AY (w.heap.size + 1) (.slice none 0 0) (.slice none 0 0) (.int .i64 0) (.int .i64 0) (.slice none 0 0) (.slice none 0 0) (.bool false) (x2.alloc (.cells (c7 r Lu NX ra2 rc2 oa2 oc2 ua2 uc2) 120)))
  have HB4 := zh (hQb _ hQ4)
  clear hblk
  go_wp2_with fail
  change bodyPost _ _ _ _ _ (Bt (w.heap.size + 1) (.slice none 0 0) (.slice none 0 0) (.int .i64 0) (.int .i64 0) (.slice none 0 0) (.slice none 0 0) (.bool false) (x2.alloc (.cells (c7 r Lu NX ra2 rc2 oa2 oc2 ua2 uc2) 120)))
  generalize x2.alloc (.cells (c7 r Lu NX ra2 rc2 oa2 oc2 ua2 uc2) 120) = x3 at *
  generalize Bt (w.heap.size + 1) (.slice none 0 0) (.slice none 0 0) (.int .i64 0) (.int .i64 0) (.slice none 0 0) (.slice none 0 0) (.bool false) x3 = x4 at *
  have k0 := Aa (j := 0) HW.out rfl
  have k1 := Aa (j := 1) HW.out rfl
  have k2 := Aa (j := 2) HW.out rfl
  have k3 := Aa (j := 3) HW.out rfl
  have k4 := Aa (j := 4) HW.out rfl
  have k5 := Aa (j := 5) HW.out rfl
  have k6 := Aa (j := 6) HW.out rfl
  refine bodyPost_ret (v := .tuple #[.agg z7, .int .i64 4]) (by simp [results, Tryz.results76, go_sem]; simp [k0, k1, k2, k3, k4, k5, k6] <;> rfl) rfl ?_
  have hs := HB4.out.size
  have hbe : Below w.heap.size w x4 := HB4.out.trans (HU.out.below (B := w.heap.size) hs (fun b hb => by omega))
  refine ⟨.slice none 0 0, .slice none 0 0, .slice none 0 0, .slice none 0 0, by rw [HRR.out, HCC.out]; rfl, by rw [HRR.out]; exact El _ _, ?_, fun h => absurd h HNE.out, fun _ => hbe⟩
  exact ⟨hbe.os, hbe.tape, hbe.output, hbe.size, fun b hb _ => hbe.block b hb⟩
 have HIE := zh (MU hc hp)
 have HCC := zh (show Rw r ph E = E by unfold Rw; rw [if_neg (by simpa using HIE.out)])
 have HRR := zh (show To r ph E R = if E = 0 then R else Ds by unfold To; rw [HCC.out])
 have q1 : (r.phase != ph) = false := by simpa using hp
 clear hc hp
 go_enter Tryz.func76, Tryz.ntmps76
 have c0 := y0 _ hQ1
 have c1 := y1 _ hQ1
 have c2 := y2 _ hQ1
 have c3 := y3 _ hQ1
 have c4 := y4 _ hQ1
 have c5 := y5 _ hQ1
 have c6 := y6 _ hQ1
 go_wp2_with fail
 refine (HC.out _ hQ1).mono ?_
 rintro e x1 ⟨rfl, hb1⟩
 have hQ2 := hQn _ _ hQ1 hb1
 clear hb1 c0 c1 c2 c3 c4 c5 c6
 have a0 := y0 _ hQ2
 have a1 := y1 _ hQ2
 have a2 := y2 _ hQ2
 have a3 := y3 _ hQ2
 have a4 := y4 _ hQ2
 have a5 := y5 _ hQ2
 have a6 := y6 _ hQ2
 go_wp2_with fail
 refine (HO.out _ hQ2).mono ?_
 rintro e x2 ⟨sv2, rv2, ov2, uv2, rfl, hr2, hb2⟩
 have hQ3 := hQn _ _ hQ2 hb2
 obtain ⟨Lu, NX, rfl⟩ := hr2.store.vshape
 obtain ⟨⟨ra2, rc2⟩, rfl⟩ := hr2.refs.shape
 obtain ⟨oa2, oc2, rfl⟩ := hr2.objs.vshape
 obtain ⟨⟨ua2, uc2⟩, rfl⟩ := hr2.upds.shape
 clear a0 a1 a2 a3 a4 a5 a6
 have hQ4 := hQ.alloc _ (.cells (c7 r Lu NX ra2 rc2 oa2 oc2 ua2 uc2) 120) hQ3
 have hs2 := Hsz.out _ hQ2
 have hs3 := hb2.size
 have hkp : Dy (fun b => w.heap.size + 2 ≤ b ∧ b ≠ x2.heap.size) x2.heap.size (x2.alloc (.cells (c7 r Lu NX ra2 rc2 oa2 oc2 ua2 uc2) 120)) r := ⟨_, _, _, _, _, _, _, _, heap_alloc_new x2 _, (AH.lt hr2).below bal |>.weaken fun b hb => ⟨by omega, by omega⟩⟩
 have HDo := zh (HD.out HIE.out _ x2.heap.size (w.heap.size + 2) (hQb _ hQ4) (by omega) (by omega) hkp)
 have HZ4 := zh (HZ.out _ hQ4)
 have HB4 := zh (hQb _ hQ4)
 have HDs := zh (show w.heap.size + 2 ≤ x2.heap.size by omega)
 clear hb2 hr2 hkp HD HO HC
 simp only [Bf]
 go_wp2_with fail
 refine HDo.out.mono ?_
 rintro e y ⟨rfl, hk, hu, hKy⟩
 have hzy : y.heap[w.heap.size + 1]? = some (.cells z7 28 (0, 0)) := hu.blk HZ4.out (fun h => h.elim (fun e => by have := HDs.out; omega) (fun e => by have := HT.out _ e; omega))
 have HUy := zh (show Av T w y from (Av.trans (⟨HB4.out.os, HB4.out.tape, HB4.out.output, HB4.out.size, fun b hb _ => HB4.out.block b hb⟩ : Av T w _) hu (fun b hb ht => ht.elim (fun e => by have := HDs.out; omega) (fun e => e))))
 have HKy := zh hKy
 have Hk := zh hk
 have hsy := HUy.out.size
 have HDl := zh HDs.out
 clear hKy hu HB4 HZ4 hk hQ4 hQ3 hQ2 hQ1 HDo
 generalize x2.heap.size = D at *
 by_cases he : E = 0
 case neg =>
  have q2 : (E != 0) = true := by simpa using he
  have HN := zh he
  clear he Hk
  have HW := zh (Bz (v0 := .slice none 0 0) (v1 := .slice none 0 0) (v2 := .int .i64 0) (v3 := .int .i64 0) (v4 := .slice none 0 0) (v5 := .slice none 0 0) (v6 := .bool false) hzy)
  have HU := zh (AY (w.heap.size + 1) (.slice none 0 0) (.slice none 0 0) (.int .i64 0) (.int .i64 0) (.slice none 0 0) (.slice none 0 0) (.bool false) y)
  have g0 := Aa (j := 0) hzy rfl
  have g1 := Aa (j := 1) hzy rfl
  have g2 := Aa (j := 2) hzy rfl
  have g3 := Aa (j := 3) hzy rfl
  have g4 := Aa (j := 4) hzy rfl
  have g5 := Aa (j := 5) hzy rfl
  have g6 := Aa (j := 6) hzy rfl
  have f0 := Ab (j := 0) hzy
  have f1 := Ab (j := 1) hzy
  have f2 := Ab (j := 2) hzy
  have f3 := Ab (j := 3) hzy
  have f4 := Ab (j := 4) hzy
  have f5 := Ab (j := 5) hzy
  have f6 := Ab (j := 6) hzy
  clear hzy
  go_wp2_with fail
  change bodyPost _ _ _ _ _ (Bt (w.heap.size + 1) (.slice none 0 0) (.slice none 0 0) (.int .i64 0) (.int .i64 0) (.slice none 0 0) (.slice none 0 0) (.bool false) y)
  generalize Bt (w.heap.size + 1) (.slice none 0 0) (.slice none 0 0) (.int .i64 0) (.int .i64 0) (.slice none 0 0) (.slice none 0 0) (.bool false) y = z at *
  have k0 := Aa (j := 0) HW.out rfl
  have k1 := Aa (j := 1) HW.out rfl
  have k2 := Aa (j := 2) HW.out rfl
  have k3 := Aa (j := 3) HW.out rfl
  have k4 := Aa (j := 4) HW.out rfl
  have k5 := Aa (j := 5) HW.out rfl
  have k6 := Aa (j := 6) HW.out rfl
  refine bodyPost_ret (v := .tuple #[.agg z7, .int .i64 E]) (by simp [results, Tryz.results76, go_sem]; simp [k0, k1, k2, k3, k4, k5, k6] <;> rfl) rfl ?_
  have hKz := HK.out _ _ HKy.out (HU.out.weaken (T' := fun b => w.heap.size ≤ b) fun b _ hb => by omega)
  have hUz : Av T w z := HUy.out.trans HU.out (fun b hb e => by omega)
  refine ⟨.slice none 0 0, .slice none 0 0, .slice none 0 0, .slice none 0 0, by rw [HRR.out, HCC.out, if_neg HN.out]; try rfl, by rw [HRR.out, if_neg HN.out]; exact El _ _, hUz, fun _ => hKz, fun h => absurd HIE.out h⟩
 subst he
 obtain ⟨sa5, Ed, ra5, rc5, oa5, oc5, ua5, uc5, hb5, hr5⟩ := Hk.out rfl
 have Hr5 := zh hr5
 clear hr5 Hk
 have p0 := Aa (j := 0) hb5 rfl
 have p1 := Aa (j := 1) hb5 rfl
 have p2 := Aa (j := 2) hb5 rfl
 have p3 := Aa (j := 3) hb5 rfl
 have p4 := Aa (j := 4) hb5 rfl
 have p5 := Aa (j := 5) hb5 rfl
 have p6 := Aa (j := 6) hb5 rfl
 clear hb5
 have HW := zh (Bz (v0 := .slice sa5 R.store.length Ed) (v1 := .slice ra5 R.refs.length rc5) (v2 := .int .i64 R.gen) (v3 := .int .i64 R.phase) (v4 := .slice oa5 R.pend.objects.length oc5) (v5 := .slice ua5 R.pend.updates.length uc5) (v6 := .bool R.pend.force) hzy)
 have HU := zh (AY (w.heap.size + 1) (.slice sa5 R.store.length Ed) (.slice ra5 R.refs.length rc5) (.int .i64 R.gen) (.int .i64 R.phase) (.slice oa5 R.pend.objects.length oc5) (.slice ua5 R.pend.updates.length uc5) (.bool R.pend.force) y)
 have g0 := Aa (j := 0) hzy rfl
 have g1 := Aa (j := 1) hzy rfl
 have g2 := Aa (j := 2) hzy rfl
 have g3 := Aa (j := 3) hzy rfl
 have g4 := Aa (j := 4) hzy rfl
 have g5 := Aa (j := 5) hzy rfl
 have g6 := Aa (j := 6) hzy rfl
 have f0 := Ab (j := 0) hzy
 have f1 := Ab (j := 1) hzy
 have f2 := Ab (j := 2) hzy
 have f3 := Ab (j := 3) hzy
 have f4 := Ab (j := 4) hzy
 have f5 := Ab (j := 5) hzy
 have f6 := Ab (j := 6) hzy
 clear hzy
 go_wp2_with fail
 change bodyPost _ _ _ _ _ (Bt (w.heap.size + 1) (.slice sa5 R.store.length Ed) (.slice ra5 R.refs.length rc5) (.int .i64 R.gen) (.int .i64 R.phase) (.slice oa5 R.pend.objects.length oc5) (.slice ua5 R.pend.updates.length uc5) (.bool R.pend.force) y)
 generalize Bt (w.heap.size + 1) (.slice sa5 R.store.length Ed) (.slice ra5 R.refs.length rc5) (.int .i64 R.gen) (.int .i64 R.phase) (.slice oa5 R.pend.objects.length oc5) (.slice ua5 R.pend.updates.length uc5) (.bool R.pend.force) y = z at *
 have k0 := Aa (j := 0) HW.out rfl
 have k1 := Aa (j := 1) HW.out rfl
 have k2 := Aa (j := 2) HW.out rfl
 have k3 := Aa (j := 3) HW.out rfl
 have k4 := Aa (j := 4) HW.out rfl
 have k5 := Aa (j := 5) HW.out rfl
 have k6 := Aa (j := 6) HW.out rfl
 refine bodyPost_ret (v := .tuple #[.agg (c7 R sa5 Ed ra5 rc5 oa5 oc5 ua5 uc5), .int .i64 0]) (by simp [results, Tryz.results76, go_sem]; simp [k0, k1, k2, k3, k4, k5, k6] <;> rfl) rfl ?_
 have hKz := HK.out _ _ HKy.out (HU.out.weaken (T' := fun b => w.heap.size ≤ b) fun b _ hb => by omega)
 have hUz : Av T w z := HUy.out.trans HU.out (fun b hb e => by omega)
 refine ⟨.slice sa5 R.store.length Ed, .slice ra5 R.refs.length rc5, .slice oa5 R.pend.objects.length oc5, .slice ua5 R.pend.updates.length uc5, by rw [HRR.out, HCC.out, if_pos (by trivial)]; try rfl, by rw [HRR.out, if_pos (by trivial)]; exact (AH.upd Hr5.out HU.out (fun b hb e => by omega)).weaken fun b hb => by omega, hUz, fun _ => hKz, fun h => absurd HIE.out h⟩
theorem Fz {w w' : World} (h : Below w.heap.size w w') : Av (fun _ => False) w w' := ⟨h.os, h.tape, h.output, h.size, fun b hb _ => h.block b hb⟩
theorem JT {w w' : World} (h : Av (fun _ => False) w w') : Below w.heap.size w w' := ⟨h.os, h.tape, h.output, h.size, fun b hb => h.block b hb (fun h => h)⟩
def Yh (b : Nat) (v0 v1 v2 : Value) (w : World) : World := ((w.setCell ⟨b, 0, none⟩ v0).setCell ⟨b, 1, none⟩ v1).setCell ⟨b, 2, none⟩ v2
theorem XC {b : Nat} {v0 v1 v2 u0 u1 u2 u3 u4 u5 u6 : Value} {t : TypeId} {w : World} (h0 : w.heap[b]? = some (.cells #[u0, u1, u2, u3, u4, u5, u6] t (0, 0))) :
  (Yh b v0 v1 v2 w).heap[b]? = some (.cells #[v0, v1, v2, u3, u4, u5, u6] t (0, 0)) := by
 have s0 : (w.setCell ⟨b, 0, none⟩ v0).heap[b]? = some (.cells #[v0, u1, u2, u3, u4, u5, u6] t (0, 0)) := by have := Ad (j := 0) h0 v0; simpa using this
 have s1 : ((w.setCell ⟨b, 0, none⟩ v0).setCell ⟨b, 1, none⟩ v1).heap[b]? = some (.cells #[v0, v1, u2, u3, u4, u5, u6] t (0, 0)) := by have := Ad (j := 1) s0 v1; simpa using this
 have s2 : (((w.setCell ⟨b, 0, none⟩ v0).setCell ⟨b, 1, none⟩ v1).setCell ⟨b, 2, none⟩ v2).heap[b]? = some (.cells #[v0, v1, v2, u3, u4, u5, u6] t (0, 0)) := by have := Ad (j := 2) s1 v2; simpa using this
 exact s2
theorem VF (b : Nat) (v0 v1 v2 : Value) (w : World) : Av (fun x => x = b) w (Yh b v0 v1 v2 w) :=
 Av.setCell (T := fun x => x = b) (Av.setCell (T := fun x => x = b) (Av.setCell (T := fun x => x = b) (Av.refl (fun x => x = b) w) (fun _ => rfl) v0) (fun _ => rfl) v1) (fun _ => rfl) v2
theorem RO (r : An) (P : Nat → Prop) (D : Nat) (w : World) (h : Dy P D w r) (hP : ∀ b, P b → b ≠ D) (hR : Ct r) (hph : r.phase ≠ 0) :
  Calls Tryz.prog 118 #[.pointer (some ⟨D, 0, none⟩)] w fun e y => e = .returned (.int .i64 (OQ r)) ∧ (OQ r = 0 → Dy (fun b => P b ∨ w.heap.size ≤ b) D y (DQ r r.pend)) ∧ Av (fun b => b = D) w y := by
 have hDw := h.lt
 obtain ⟨sa, sc, ra, rc, oa, oc, ua, uc, hblk, hr⟩ := h
 obtain ⟨Q, hQ, hQ1, _⟩ := Ay w
 have hQb := hQ.below
 have hQn := hQ.next
 have HK := zh (fun x (hx : In Q x) => Ak hblk (hQb _ hx))
 have y0 := fun x (hx : In Q x) => Aa (j := 0) (Ak hblk (hQb _ hx)) rfl
 have y1 := fun x (hx : In Q x) => Aa (j := 1) (Ak hblk (hQb _ hx)) rfl
 have y2 := fun x (hx : In Q x) => Aa (j := 2) (Ak hblk (hQb _ hx)) rfl
 have y3 := fun x (hx : In Q x) => Aa (j := 3) (Ak hblk (hQb _ hx)) rfl
 have y4 := fun x (hx : In Q x) => Aa (j := 4) (Ak hblk (hQb _ hx)) rfl
 have y5 := fun x (hx : In Q x) => Aa (j := 5) (Ak hblk (hQb _ hx)) rfl
 have y6 := fun x (hx : In Q x) => Aa (j := 6) (Ak hblk (hQb _ hx)) rfl
 have HT := zh (fun x (hx : In Q x) => Kg r r.pend _ _ _ _ _ _ _ _ _ _ x (hr.store.below (hQb _ hx)) (hr.refs.below (hQb _ hx)) (hr.objs.below (hQb _ hx)) (hr.upds.below (hQb _ hx)) (Dn (hR.held hph)).2.2 ⟨Ah.shape3 hr.objs, AM.shape3 hr.upds⟩)
 have HC := zh (show OQ r = if Bn r r.pend ≠ 0 then Bn r r.pend else if r.gen = 999 then 2 else 0 from rfl)
 have Hg := zh hR.gen
 have Hr := zh hr
 clear hr hblk hR
 go_enter Tryz.func118, Tryz.ntmps118
 go_wp2_with fail
 refine wp_region_held (S := In Q) (by kernel_rfl) ?_
 change wpAnyH _ _ _ _ _ _ _ _ (World.drew _)
 have hC0 := hQ.drew _ hQ1
 generalize w.drew = x0 at hC0 ⊢
 refine tk 0 (.pointer (some ⟨D, 0, none⟩)) (fun w hSw => ?_) hC0 ?_
 ·go_simp
 simp only [tkS]
 refine tk 1 (.pointer (some ⟨D, 0, none⟩)) (fun w hSw => ?_) hC0 ?_
 ·go_simp
 simp only [tkS]
 refine tk 2 (.pointer (some ⟨D, 0, none⟩)) (fun w hSw => ?_) hC0 ?_
 ·go_simp
 simp only [tkS]
 refine tk 4 (.pointer (some ⟨D, 0, none⟩)) (fun w hSw => ?_) hC0 ?_
 ·go_simp
 simp only [tkS]
 refine tk 5 (.pointer (some ⟨D, 0, none⟩)) (fun w hSw => ?_) hC0 ?_
 ·go_simp
 simp only [tkS]
 refine tk 6 (.pointer (some ⟨D, 0, none⟩)) (fun w hSw => ?_) hC0 ?_
 ·go_simp
 simp only [tkS]
 refine tk 3 (.agg #[.slice sa r.store.length sc, .slice ra r.refs.length rc, .int .i64 r.gen, .int .i64 r.phase, .slice oa r.pend.objects.length oc, .slice ua r.pend.updates.length uc, .bool r.pend.force]) (fun w hSw => ?_) hC0 ?_
 ·have z0 := y0 _ hSw; have z1 := y1 _ hSw; have z2 := y2 _ hSw; have z3 := y3 _ hSw; have z4 := y4 _ hSw; have z5 := y5 _ hSw; have z6 := y6 _ hSw; go_simp
 simp only [tkS]
 refine tk 7 (.pointer (some ⟨D, 4, none⟩)) (fun w hSw => ?_) hC0 ?_
 ·go_simp
 simp only [tkS]
 refine tk 8 (.agg #[.slice oa r.pend.objects.length oc, .slice ua r.pend.updates.length uc, .bool r.pend.force]) (fun w hSw => ?_) hC0 ?_
 ·have z4 := y4 _ hSw; have z5 := y5 _ hSw; have z6 := y6 _ hSw; go_simp
 simp only [tkS]
 refine al1 9 ?_
 refine Or.inl ?_
 go_wp2_with fail
 refine (HT.out _ hC0).mono ?_
 rintro e x1 ⟨v, u, rfl, hv, hu, hb1⟩
 have hC1 := hQn _ _ hC0 hb1
 obtain ⟨va, vc, rfl⟩ := hv.vshape
 obtain ⟨⟨ma, mc⟩, rfl⟩ := hu.shape
 have hs0 := (hQb _ hC0).size
 have Hv := zh (hv.weaken (S' := fun b => w.heap.size ≤ b) (fun b hb => by omega))
 have Hu := zh (hu.weaken (S' := fun b => w.heap.size ≤ b) (fun b hb => by omega))
 clear hv hu hb1 hs0
 go_simp
 refine tk 10 (.tuple #[.slice va (Ff r r.pend).length vc, .slice ma (EG r r.pend).length mc, .int .i64 (Bn r r.pend)]) (fun w hSw => ?_) hC1 ?_
 ·go_simp
 simp only [tkS]
 refine tk 11 (.slice va (Ff r r.pend).length vc) (fun w hSw => ?_) hC1 ?_
 ·go_simp
 simp only [tkS]
 refine tk 12 (.slice ma (EG r r.pend).length mc) (fun w hSw => ?_) hC1 ?_
 ·go_simp
 simp only [tkS]
 refine tk 13 (.int .i64 (Bn r r.pend)) (fun w hSw => ?_) hC1 ?_
 ·go_simp
 simp only [tkS]
 refine tk 14 (.slice va (Ff r r.pend).length vc) (fun w hSw => ?_) hC1 ?_
 ·go_simp
 simp only [tkS]
 refine tk 15 (.slice ma (EG r r.pend).length mc) (fun w hSw => ?_) hC1 ?_
 ·go_simp
 simp only [tkS]
 refine tk 16 (.int .i64 (Bn r r.pend)) (fun w hSw => ?_) hC1 ?_
 ·go_simp
 simp only [tkS]
 refine wpAnyH_done (by kernel_rfl) ?_ _
 have HB := zh (hQb _ hC1)
 have Hk1 := zh (HK.out _ hC1)
 have HUn := zh (show Av (fun b => b = D) w x1 from (Fz HB.out).weaken (fun _ _ h => h.elim))
 by_cases ht : Bn r r.pend = 0
 case neg =>
  have HE := zh (show OQ r = Bn r r.pend by rw [HC.out, if_pos ht])
  have q : (Bn r r.pend != 0) = true := by simpa using ht
  have HN := zh ht
  clear ht
  generalize Bn r r.pend = c at *
  go_wp2_with fail
  go_ret
  exact ⟨by rw [HE.out] <;> rfl, fun h => absurd (HE.out.symm.trans h) HN.out, HUn.out⟩
 rw [if_neg (by simpa using ht)] at HC
 have q : (Bn r r.pend != 0) = false := by simpa using ht
 rw [ht]
 have hblk1 := Hk1.out
 have g0 := Aa (j := 0) hblk1 rfl
 have g1 := Aa (j := 1) hblk1 rfl
 have g2 := Aa (j := 2) hblk1 rfl
 have g3 := Aa (j := 3) hblk1 rfl
 have g4 := Aa (j := 4) hblk1 rfl
 have g5 := Aa (j := 5) hblk1 rfl
 have g6 := Aa (j := 6) hblk1 rfl
 have f0 := Ab (j := 0) hblk1
 have f1 := Ab (j := 1) hblk1
 have f2 := Ab (j := 2) hblk1
 have f3 := Ab (j := 3) hblk1
 have f4 := Ab (j := 4) hblk1
 have f5 := Ab (j := 5) hblk1
 have f6 := Ab (j := 6) hblk1
 by_cases hg : r.gen = 999
 case pos =>
  rw [if_pos hg] at HC
  have q2 : (r.gen == 999) = true := by simpa using hg
  clear hg ht q f0 f1 f2 f3 f4 f5 f6
  go_wp2_with fail
  go_ret
  exact ⟨by rw [HC.out] <;> rfl, (fun h => by rw [HC.out] at h; cases h), HUn.out⟩
 rw [if_neg hg] at HC
 have q2 : (r.gen == 999) = false := by simpa using hg
 have hwr := Bb (n := r.gen + 1) (by have := Hg.out; omega)
 have HI := zh (show DL (r.gen + 1) from by have := Hg.out; unfold DL; omega)
 clear hg ht q hblk1
 have hW := XC (v0 := .slice va (Ff r r.pend).length vc) (v1 := .slice ma (EG r r.pend).length mc) (v2 := .int .i64 (r.gen + 1)) Hk1.out
 have hU := VF D (.slice va (Ff r r.pend).length vc) (.slice ma (EG r r.pend).length mc) (.int .i64 (r.gen + 1)) x1
 have hD1 : D < x1.heap.size := lt_of_block Hk1.out
 have hkp : Dy (fun b => P b ∨ w.heap.size ≤ b) D (Yh D (.slice va (Ff r r.pend).length vc) (.slice ma (EG r r.pend).length mc) (.int .i64 (r.gen + 1)) x1) ⟨Ff r r.pend, EG r r.pend, r.gen + 1, r.phase, r.pend⟩ := ⟨_, _, _, _, _, _, _, _, hW, ⟨(Hv.out.upd' hU (fun b hb e => by omega)).weaken fun b hb => .inr hb, (Hu.out.upd hU (fun b hb e => by omega)).weaken fun b hb => .inr hb, ((Hr.out.objs.below HB.out).upd' hU (fun b hb e => hP b hb e)).weaken fun b hb => .inl hb, ((Hr.out.upds.below HB.out).upd hU (fun b hb e => hP b hb e)).weaken fun b hb => .inl hb, HI.out, Hr.out.phase⟩⟩
 have HId := zh (FF _ _ D _ hkp (fun b hb => hb.elim (hP b) (fun h => by omega)))
 have HUw := zh (HUn.out.trans hU (fun b hb e => e))
 clear hkp hW hU
 go_wp2_with fail
 refine HId.out.mono ?_
 rintro e y ⟨rfl, hk, hu⟩
 have HE := zh (And.intro hk (HUw.out.trans hu (fun b hb e => e)))
 clear hk hu HId
 go_wp2_with fail
 go_ret
 exact ⟨by rw [HC.out] <;> rfl, fun _ => HE.out.1, HE.out.2⟩
theorem QC (r : An) (p : BJ) (J : Nat) (ov uv : Value) (S S1 : Nat → Prop) (w : World) (hJ : w.heap[J]? = some (.cells #[ov, uv, .bool p.force] 26 (0, 0))) (ho : Ah S w ov p.objects) (hu : AM S1 w uv p.updates) :
  PY 77 #[.pointer (some ⟨J, 0, none⟩)] w (fun _ => False) (fun _ => True) r (As p) (Cg r p) := by
 intro x D B hx hB hBD hk
 show Calls Tryz.prog 77 #[.pointer (some ⟨D, 0, none⟩), .pointer (some ⟨J, 0, none⟩)] x _
 have hJw := lt_of_block hJ
 have hDx := hk.lt
 obtain ⟨sa, sc, ra, rc, oa, oc, ua, uc, hblk, hr⟩ := hk
 have HOw := zh (LK p _ _ _ _ x (ho.below hx) (hu.below hx))
 have HCk := zh (fun y (hy : Below w.heap.size w y) => FV p _ _ _ _ y (ho.below hy) (hu.below hy))
 obtain ⟨oa1, oc1, rfl⟩ := ho.vshape
 obtain ⟨⟨ua1, uc1⟩, rfl⟩ := hu.shape
 simp only [EH] at HOw HCk
 have hJx := Ak hJ hx
 have j0 := Aa (j := 0) hJx rfl
 have j1 := Aa (j := 1) hJx rfl
 have j2 := Aa (j := 2) hJx rfl
 have Hr := zh hr
 have HB := zh hBD
 clear hr ho hu hJ
 go_enter Tryz.func77, Tryz.ntmps77
 go_wp2_with fail
 refine HOw.out.mono ?_
 rintro e x1 ⟨ov2, uv2, rfl, ho2, hu2, hb1⟩
 obtain ⟨oa2, oc2, rfl⟩ := ho2.vshape
 obtain ⟨⟨ua2, uc2⟩, rfl⟩ := hu2.shape
 simp only [EH]
 have hblk1 := Ak hblk hb1
 have g0 := Aa (j := 0) hblk1 rfl
 have g1 := Aa (j := 1) hblk1 rfl
 have g2 := Aa (j := 2) hblk1 rfl
 have g3 := Aa (j := 3) hblk1 rfl
 have g4 := Aa (j := 4) hblk1 rfl
 have g5 := Aa (j := 5) hblk1 rfl
 have g6 := Aa (j := 6) hblk1 rfl
 have f0 := Ab (j := 0) hblk1
 have f1 := Ab (j := 1) hblk1
 have f2 := Ab (j := 2) hblk1
 have f3 := Ab (j := 3) hblk1
 have f4 := Ab (j := 4) hblk1
 have f5 := Ab (j := 5) hblk1
 have f6 := Ab (j := 6) hblk1
 have hW := Tu (v3 := .int .i64 1) (v4 := .slice oa2 p.objects.length oc2) (v5 := .slice ua2 p.updates.length uc2) (v6 := .bool p.force) hblk1
 have hU := KC D (.int .i64 1) (.slice oa2 p.objects.length oc2) (.slice ua2 p.updates.length uc2) (.bool p.force) x1
 have hJ1 := hU.blk (Ak hJx hb1) (by omega)
 have m0 := Aa (j := 0) hJ1 rfl
 have m1 := Aa (j := 1) hJ1 rfl
 have m2 := Aa (j := 2) hJ1 rfl
 simp only [Po] at m0 m1 m2
 have hBy : Below w.heap.size w (Po D (.int .i64 1) (.slice oa2 p.objects.length oc2) (.slice ua2 p.updates.length uc2) (.bool p.force) x1) := (Aj hx hb1).trans (hU.below (B := w.heap.size) (Aj hx hb1).size (fun b hb => by omega))
 have HC1 := zh (HCk.out _ hBy)
 have HKp := zh (show Dy (fun b => B ≤ b ∧ b ≠ D) D (Po D (.int .i64 1) (.slice oa2 p.objects.length oc2) (.slice ua2 p.updates.length uc2) (.bool p.force) x1) (Cg r p) from ⟨_, _, _, _, _, _, _, _, hW, ⟨(Hr.out.store.below hb1).upd' hU (fun b hb e => hb.2 e), (Hr.out.refs.below hb1).upd hU (fun b hb e => hb.2 e), (ho2.upd' hU (fun b hb e => by omega)).weaken (fun b hb => ⟨by omega, by omega⟩), (hu2.upd hU (fun b hb e => by omega)).weaken (fun b hb => ⟨by omega, by omega⟩), Hr.out.gen, by first | (show DL 0; unfold DL; decide) | (show DL 1; unfold DL; decide) | (show DL 2; unfold DL; decide)⟩⟩)
 have HUy := zh (show Av (fun b => b = D ∨ False) x (Po D (.int .i64 1) (.slice oa2 p.objects.length oc2) (.slice ua2 p.updates.length uc2) (.bool p.force) x1) from (((Fz hb1).weaken (fun _ _ h => h.elim)).trans hU (fun b hb e => .inl e)))
 clear hW hU hJ1 hBy ho2 hu2 hb1 hblk1 HCk HOw j0 j1 j2
 go_wp2_with fail
 refine HC1.out.mono ?_
 rintro e y ⟨rfl, hb2⟩
 have HE := zh (And.intro (HKp.out.below hb2) (HUy.out.trans (Fz hb2) (fun _ _ h => h.elim)))
 clear hb2 HC1
 go_wp2_with fail
 go_ret
 exact ⟨rfl, fun _ => HE.out.1, HE.out.2, trivial⟩
theorem Uu (r : An) (w : World) : PY 79 #[] w (fun _ => False) (fun _ => True) r 0 (DD r) := by
 intro x D B hx hB hBD hk
 show Calls Tryz.prog 79 #[.pointer (some ⟨D, 0, none⟩)] x _
 have HId := zh (FF r _ D x hk (fun b hb => hb.2))
 clear hk
 go_enter Tryz.func79, Tryz.ntmps79
 go_wp2_with fail
 refine HId.out.mono ?_
 rintro e y ⟨rfl, hk, hu⟩
 have HE := zh (And.intro hk (hu.weaken (T' := fun b => b = D ∨ False) (fun _ _ h => .inl h)))
 clear hk hu
 go_wp2_with fail
 go_ret
 exact ⟨rfl, fun _ => HE.out.1, HE.out.2, trivial⟩
theorem SA (r : An) (c : Bool) (J : Nat) (w : World) (hJ : w.heap[J]? = some (.cells #[.bool c] 4 (0, 0))) (hR : Ct r) (hph : r.phase ≠ 0) :
  PY 117 #[.pointer (some ⟨J, 0, none⟩)] w (fun _ => False) (fun _ => True) r (Sm r c) (Vb r c) := by
 intro x D B hx hB hBD hk
 show Calls Tryz.prog 117 #[.pointer (some ⟨D, 0, none⟩), .pointer (some ⟨J, 0, none⟩)] x _
 have hDx := hk.lt
 have j0 := Aa (j := 0) (Ak hJ hx) rfl
 cases c
 ·have HId := zh (FF r _ D x hk (fun b hb => hb.2))
  have HX := zh (show Sm r false = 0 ∧ Vb r false = DD r from ⟨rfl, rfl⟩)
  clear hk hJ
  go_enter Tryz.func117, Tryz.ntmps117
  go_wp2_with fail
  refine HId.out.mono ?_
  rintro e y ⟨rfl, hk, hu⟩
  have HE := zh (And.intro hk (hu.weaken (T' := fun b => b = D ∨ False) (fun _ _ h => .inl h)))
  clear hk hu
  go_wp2_with fail
  go_ret
  exact ⟨by rw [HX.out.1] <;> rfl, fun _ => by rw [HX.out.2]; exact HE.out.1, HE.out.2, trivial⟩
 ·have HCo := zh (RO r _ D x hk (fun b hb => hb.2) hR hph)
  have HX := zh (show Sm r true = OQ r ∧ Vb r true = DQ r r.pend from ⟨rfl, rfl⟩)
  clear hk hJ hR
  go_enter Tryz.func117, Tryz.ntmps117
  go_wp2_with fail
  refine HCo.out.mono ?_
  rintro e y ⟨rfl, hk, hu⟩
  have HE := zh (And.intro (fun h => Dy.weaken (hk h) (P' := fun b => B ≤ b ∧ b ≠ D) (fun b hb => hb.elim (fun h => h) (fun h => ⟨by omega, by omega⟩))) (hu.weaken (T' := fun b => b = D ∨ False) (fun _ _ h => .inl h)))
  clear hk hu
  go_wp2_with fail
  go_ret
  exact ⟨by rw [HX.out.1] <;> rfl, fun h => by rw [HX.out.2]; exact HE.out.1 (HX.out.1.symm.trans h), HE.out.2, trivial⟩
theorem VT (r : An) (J : Nat) (w : World) (hJ : w.heap[J]? = some (.cells #[.string ByteArray.empty] 9 (0, 0))) (hR : Ct r) (hph : r.phase ≠ 0) (ht : QG w) :
  PY 116 #[.pointer (some ⟨J, 0, none⟩)] w (fun b => b = J) (fun y => y.cell? ⟨J, 0, none⟩ = some (.string (Cu r r.pend))) r 0 (Cb r) := by
 intro x D B hx hB hBD hk
 show Calls Tryz.prog 116 #[.pointer (some ⟨D, 0, none⟩), .pointer (some ⟨J, 0, none⟩)] x _
 have hJw := lt_of_block hJ
 have hDx := hk.lt
 obtain ⟨sa, sc, ra, rc, oa, oc, ua, uc, hblk, hr⟩ := hk
 have hJx := Ak hJ hx
 have htx := ht.below hx
 have g0 := Aa (j := 0) hblk rfl
 have g1 := Aa (j := 1) hblk rfl
 have g2 := Aa (j := 2) hblk rfl
 have g3 := Aa (j := 3) hblk rfl
 have g4 := Aa (j := 4) hblk rfl
 have g5 := Aa (j := 5) hblk rfl
 have g6 := Aa (j := 6) hblk rfl
 have f0 := Ab (j := 0) hblk
 have f1 := Ab (j := 1) hblk
 have f2 := Ab (j := 2) hblk
 have f3 := Ab (j := 3) hblk
 have f4 := Ab (j := 4) hblk
 have f5 := Ab (j := 5) hblk
 have f6 := Ab (j := 6) hblk
 have hblk1 : (x.setCell ⟨D, 3, none⟩ (.int .i64 2)).heap[D]? = some (.cells #[.slice sa r.store.length sc, .slice ra r.refs.length rc, .int .i64 r.gen, .int .i64 2, .slice oa r.pend.objects.length oc, .slice ua r.pend.updates.length uc, .bool r.pend.force] 120 (0, 0)) := by have := Ad (j := 3) hblk (.int .i64 2); simpa using this
 have hU1 : Av (fun b => b = D) x (x.setCell ⟨D, 3, none⟩ (.int .i64 2)) := (Av.refl (fun b => b = D) x).setCell (p := ⟨D, 3, none⟩) (fun _ => rfl) _
 have hr1 := AH.upd hr hU1 (fun b hb e => hb.2 e)
 have hB1 : Below w.heap.size w (x.setCell ⟨D, 3, none⟩ (.int .i64 2)) := hx.trans (hU1.below (B := w.heap.size) hx.size (fun b hb => by omega))
 have ht1 := ht.below hB1
 have hJ1 := hU1.blk hJx (by omega)
 have HBl := zh (And.intro hblk1 (And.intro hr1 (And.intro ht1 (And.intro hJ1 hU1))))
 clear hblk hr hJ hJx ht htx hr1 ht1 hJ1 hU1 hB1 hblk1
 have HQ0 := zh (Dn (hR.held hph))
 have Hck := zh (hR.held hph)
 have Hg := zh hR.gen
 clear hR
 go_enter Tryz.func116, Tryz.ntmps116
 go_wp2_with fail
 obtain ⟨hblk1, hr1, ht1, hJ1, hU1⟩ := HBl.out
 clear HBl g0 g1 g2 g3 g4 g5 g6 f0 f1 f2 f3 f4 f5 f6
 have hs1 : (x.setCell ⟨D, 3, none⟩ (.int .i64 2)).heap.size = x.heap.size := by simp [World.setCell]
 generalize x.setCell ⟨D, 3, none⟩ (.int .i64 2) = x1 at *
 refine wp_region_held (S := (fun z : World => z.heap[D]? = some (.cells #[.slice sa r.store.length sc, .slice ra r.refs.length rc, .int .i64 r.gen, .int .i64 2, .slice oa r.pend.objects.length oc, .slice ua r.pend.updates.length uc, .bool r.pend.force] 120 (0, 0)))) (by kernel_rfl) ?_
 change wpAnyH _ _ _ _ _ _ _ _ (World.drew _)
 have hbd : Below x1.heap.size x1 x1.drew := (Below.refl _ _).drew
 have hC0 := Ak hblk1 hbd
 have HV := zh (Ro (Cb r) r.pend _ _ _ _ _ _ _ _ _ _ _ (hr1.store.below hbd) (hr1.refs.below hbd) (hr1.objs.below hbd) (hr1.upds.below hbd) ⟨Ah.shape3 hr1.objs, AM.shape3 hr1.upds⟩ Hck.out Hg.out.1 Hg.out.2 (ht1.below hbd))
 have HR1 := zh (hr1.below hbd)
 have HJ := zh (Ak hJ1 hbd)
 have HU := zh (show Av (fun b => b = D ∨ b = J) x x1.drew from (hU1.trans (Fz hbd) (fun _ _ h => h.elim)).weaken (fun _ _ h => .inl h))
 have hsd : x1.drew.heap.size = x.heap.size := hs1
 clear hbd hr1 hJ1 hU1 ht1 hblk1 hs1
 generalize x1.drew = x0 at *
 refine tk 0 (.pointer (some ⟨D, 0, none⟩)) (fun w hSw => ?_) hC0 ?_
 ·go_simp
 simp only [tkS]
 refine tk 1 (.pointer (some ⟨D, 0, none⟩)) (fun w hSw => ?_) hC0 ?_
 ·go_simp
 simp only [tkS]
 refine tk 2 (.pointer (some ⟨D, 0, none⟩)) (fun w hSw => ?_) hC0 ?_
 ·go_simp
 simp only [tkS]
 refine tk 4 (.pointer (some ⟨D, 0, none⟩)) (fun w hSw => ?_) hC0 ?_
 ·go_simp
 simp only [tkS]
 refine tk 5 (.pointer (some ⟨D, 0, none⟩)) (fun w hSw => ?_) hC0 ?_
 ·go_simp
 simp only [tkS]
 refine tk 6 (.pointer (some ⟨D, 0, none⟩)) (fun w hSw => ?_) hC0 ?_
 ·go_simp
 simp only [tkS]
 refine tk 3 (.agg #[.slice sa r.store.length sc, .slice ra r.refs.length rc, .int .i64 r.gen, .int .i64 2, .slice oa r.pend.objects.length oc, .slice ua r.pend.updates.length uc, .bool r.pend.force]) (fun w hSw => ?_) hC0 ?_
 ·have z0 := Aa (j := 0) hSw rfl; have z1 := Aa (j := 1) hSw rfl; have z2 := Aa (j := 2) hSw rfl; have z3 := Aa (j := 3) hSw rfl; have z4 := Aa (j := 4) hSw rfl; have z5 := Aa (j := 5) hSw rfl; have z6 := Aa (j := 6) hSw rfl; go_simp
 simp only [tkS]
 refine tk 7 (.pointer (some ⟨D, 4, none⟩)) (fun w hSw => ?_) hC0 ?_
 ·go_simp
 simp only [tkS]
 refine tk 8 (.agg #[.slice oa r.pend.objects.length oc, .slice ua r.pend.updates.length uc, .bool r.pend.force]) (fun w hSw => ?_) hC0 ?_
 ·have z4 := Aa (j := 4) hSw rfl; have z5 := Aa (j := 5) hSw rfl; have z6 := Aa (j := 6) hSw rfl; go_simp
 simp only [tkS]
 refine al1 9 ?_
 refine Or.inl ?_
 go_wp2_with fail
 refine HV.out.mono ?_
 rintro e x1 ⟨rfl, hb1⟩
 have hC1 := Ak hC0 hb1
 have HR2 := zh (HR1.out.below hb1)
 have hJ2 := Ak HJ.out hb1
 have HU2 := zh (HU.out.trans (Fz hb1) (fun _ _ h => h.elim))
 have p0 := Aa (j := 0) hJ2 rfl
 have p1 := Ab (j := 0) hJ2
 clear hb1 HV
 go_simp
 refine al1 10 ?_
 refine Or.inl ?_
 have hU5 : Av (fun b => b = J) x1 (x1.setCell ⟨J, 0, none⟩ (.string (Cu r r.pend))) := (Av.refl (fun b => b = J) x1).setCell (p := ⟨J, 0, none⟩) (fun _ => rfl) _
 have hC5 := hU5.blk hC1 (by omega)
 have HEnd := zh (And.intro (show Dy (fun b => B ≤ b ∧ b ≠ D) D (x1.setCell ⟨J, 0, none⟩ (.string (Cu r r.pend))) (Cb r) from ⟨_, _, _, _, _, _, _, _, hC5, ⟨HR2.out.store.upd' hU5 (fun b hb e => by omega), HR2.out.refs.upd hU5 (fun b hb e => by omega), HR2.out.objs.upd' hU5 (fun b hb e => by omega), HR2.out.upds.upd hU5 (fun b hb e => by omega), HR2.out.gen, by first | (show DL 0; unfold DL; decide) | (show DL 1; unfold DL; decide) | (show DL 2; unfold DL; decide)⟩⟩) (And.intro (HU2.out.trans hU5 (fun b hb e => .inr e)) (show (x1.setCell ⟨J, 0, none⟩ (.string (Cu r r.pend))).cell? ⟨J, 0, none⟩ = some (.string (Cu r r.pend)) from Aa (Ad (j := 0) hJ2 (.string (Cu r r.pend))) rfl)))
 have HC5 := zh hC5
 clear hU5 hC5 hJ2
 go_wp2_with fail
 first | refine ⟨HC5.out, ?_⟩ | skip
 first | refine wpAnyH_done (by kernel_rfl) ?_ _ | refine ⟨by kernel_rfl, ?_⟩
 go_wp2_with fail
 go_ret
 exact ⟨rfl, fun _ => HEnd.out.1, HEnd.out.2.1, HEnd.out.2.2⟩
theorem Th (r : An) : Rw r r.phase 0 = Al r ∧ To r r.phase 0 (DD r) = Ns r := by
 have h : Rw r r.phase 0 = Al r := by
  unfold Rw Im
  by_cases hc : Al r = 0 <;> simp [hc]
 exact ⟨h, by unfold To Ns; rw [h]⟩
theorem Ti (r : An) : Rw r 1 0 = Im r 1 ∧ To r 1 0 (Cb r) = Ox r := by
 have h : Rw r 1 0 = Im r 1 := by
  unfold Rw
  by_cases hc : Im r 1 = 0 <;> simp [hc]
 exact ⟨h, by unfold To Ox; rw [h]⟩
theorem Kq {r : An} {ph : Int} (h : Im r ph = 0) (hp : ph ≠ 0) : Ct r ∧ r.phase ≠ 0 := ⟨Bg.1 (Kt h).1, by rw [(Kt h).2]; exact hp⟩
theorem QZ (r : An) (p : BJ) (sv rv ov2 uv2 ov uv : Value) (S S1 : Nat → Prop) (w : World) (h : AH S w r sv rv ov2 uv2) (ho : Ah S1 w ov p.objects) (hu : AM S1 w uv p.updates) :
  Calls Tryz.prog 22 #[Bf r sv rv ov2 uv2, EH p ov uv] w fun e w' => FL w w' e (Ir r p) (Js r p) := by
 have H := zh h
 obtain ⟨sa, sc, rfl⟩ := h.store.vshape
 obtain ⟨⟨ra, rc⟩, rfl⟩ := h.refs.shape
 obtain ⟨oa, oc, rfl⟩ := h.objs.vshape
 obtain ⟨⟨ua, uc⟩, rfl⟩ := h.upds.shape
 clear h
 have HO := zh ho
 have HU0 := zh hu
 obtain ⟨oap, ocp, rfl⟩ := ho.vshape
 obtain ⟨⟨uap, ucp⟩, rfl⟩ := hu.shape
 clear ho hu
 simp only [Bf, EH]
 obtain ⟨Q, hQ, hQ1, HB0⟩ := AI w [.cells (c7 r sa sc ra rc oa oc ua uc) 28, .cells #[.slice oap p.objects.length ocp, .slice uap p.updates.length ucp, .bool p.force] 26, .cells z7 28]
 simp only [List.foldl] at hQ1
 have hQb := hQ.below
 have HIn := zh (Pv r 0 (As p) (Cg r p) 77 #[.pointer (some ⟨w.heap.size + 1, 0, none⟩)] (fun _ => False) (fun _ => True) _ _ _ _ _ _ (H.out.below (hQb _ hQ1)) (fun _ h => h.elim) (fun _ _ _ _ => trivial) (fun _ _ => rfl) (fun _ => QC r p _ _ _ _ _ _ (HB0 _ hQ1 1 _ rfl) (HO.out.below (hQb _ hQ1)) (HU0.out.below (hQb _ hQ1))))
 simp only [Bf] at HIn
 have y0 := Aa (j := 0) (HB0 _ hQ1 0 _ rfl) rfl
 have y1 := Aa (j := 1) (HB0 _ hQ1 0 _ rfl) rfl
 have y2 := Aa (j := 2) (HB0 _ hQ1 0 _ rfl) rfl
 have y3 := Aa (j := 3) (HB0 _ hQ1 0 _ rfl) rfl
 have y4 := Aa (j := 4) (HB0 _ hQ1 0 _ rfl) rfl
 have y5 := Aa (j := 5) (HB0 _ hQ1 0 _ rfl) rfl
 have y6 := Aa (j := 6) (HB0 _ hQ1 0 _ rfl) rfl
 simp only [Nat.add_zero] at y0 y1 y2 y3 y4 y5 y6
 go_enter Tryz.func22, Tryz.ntmps22
 go_wp2_with fail
 refine HIn.out.mono ?_
 rintro e x1 hpost
 obtain ⟨s5, r5, o5, u5, rfl, hr5, hu5, _, _⟩ := hpost
 generalize hX : To r 0 (As p) (Cg r p) = X at *
 generalize hE : Rw r 0 (As p) = E at *
 obtain ⟨sa5, Ed, rfl⟩ := hr5.store.vshape
 obtain ⟨⟨ra5, rc5⟩, rfl⟩ := hr5.refs.shape
 obtain ⟨oa5, oc5, rfl⟩ := hr5.objs.vshape
 obtain ⟨⟨ua5, uc5⟩, rfl⟩ := hr5.upds.shape
 have hb1 := JT hu5
 have hz1 := Ak (HB0 _ hQ1 2 _ rfl) hb1
 have g0 := Aa (j := 0) hz1 rfl
 have g1 := Aa (j := 1) hz1 rfl
 have g2 := Aa (j := 2) hz1 rfl
 have g3 := Aa (j := 3) hz1 rfl
 have g4 := Aa (j := 4) hz1 rfl
 have g5 := Aa (j := 5) hz1 rfl
 have g6 := Aa (j := 6) hz1 rfl
 have f0 := Ab (j := 0) hz1
 have f1 := Ab (j := 1) hz1
 have f2 := Ab (j := 2) hz1
 have f3 := Ab (j := 3) hz1
 have f4 := Ab (j := 4) hz1
 have f5 := Ab (j := 5) hz1
 have f6 := Ab (j := 6) hz1
 have HW := zh (Bz (v0 := .slice sa5 X.store.length Ed) (v1 := .slice ra5 X.refs.length rc5) (v2 := .int .i64 X.gen) (v3 := .int .i64 X.phase) (v4 := .slice oa5 X.pend.objects.length oc5) (v5 := .slice ua5 X.pend.updates.length uc5) (v6 := .bool X.pend.force) hz1)
 have HU := zh (AY (w.heap.size + 2) (.slice sa5 X.store.length Ed) (.slice ra5 X.refs.length rc5) (.int .i64 X.gen) (.int .i64 X.phase) (.slice oa5 X.pend.objects.length oc5) (.slice ua5 X.pend.updates.length uc5) (.bool X.pend.force) x1)
 have HBx := zh (Aj (hQb _ hQ1) hb1)
 have Hr5 := zh hr5
 have HX := zh hX
 have HE := zh hE
 clear hX hE hr5 hu5 hb1 hz1
 simp only [Bf]
 go_wp2_with fail
 change bodyPost _ _ _ _ _ (Bt (w.heap.size + 2) (.slice sa5 X.store.length Ed) (.slice ra5 X.refs.length rc5) (.int .i64 X.gen) (.int .i64 X.phase) (.slice oa5 X.pend.objects.length oc5) (.slice ua5 X.pend.updates.length uc5) (.bool X.pend.force) x1)
 generalize Bt (w.heap.size + 2) (.slice sa5 X.store.length Ed) (.slice ra5 X.refs.length rc5) (.int .i64 X.gen) (.int .i64 X.phase) (.slice oa5 X.pend.objects.length oc5) (.slice ua5 X.pend.updates.length uc5) (.bool X.pend.force) x1 = z at *
 have k0 := Aa (j := 0) HW.out rfl
 have k1 := Aa (j := 1) HW.out rfl
 have k2 := Aa (j := 2) HW.out rfl
 have k3 := Aa (j := 3) HW.out rfl
 have k4 := Aa (j := 4) HW.out rfl
 have k5 := Aa (j := 5) HW.out rfl
 have k6 := Aa (j := 6) HW.out rfl
 refine bodyPost_ret (v := .tuple #[.agg (c7 X sa5 Ed ra5 rc5 oa5 oc5 ua5 uc5), .int .i64 E]) (by simp [results, Tryz.results22, go_sem]; simp [k0, k1, k2, k3, k4, k5, k6] <;> rfl) rfl ?_
 have hs := (hQb _ hQ1).size
 have hX2 : Ir r p = X := HX.out
 have hE2 : Js r p = E := HE.out
 refine ⟨_, _, _, _, by rw [hX2, hE2]; rfl, ?_, HBx.out.trans (HU.out.below (B := w.heap.size) HBx.out.size (fun b hb => by omega))⟩
 rw [hX2]
 exact (AH.upd Hr5.out HU.out (fun b hb e => by simp only [World.size_alloc] at hb; omega)).weaken (S' := fun b => w.heap.size ≤ b) (fun b hb => by simp only [World.size_alloc] at hb; omega)
theorem Ry (r : An) (c : Bool) (sv rv ov2 uv2 : Value) (S : Nat → Prop) (w : World) (h : AH S w r sv rv ov2 uv2) :
  Calls Tryz.prog 55 #[Bf r sv rv ov2 uv2, .bool c] w fun e w' => FL w w' e (LV r c) (JX r c) := by
 have H := zh h
 obtain ⟨sa, sc, rfl⟩ := h.store.vshape
 obtain ⟨⟨ra, rc⟩, rfl⟩ := h.refs.shape
 obtain ⟨oa, oc, rfl⟩ := h.objs.vshape
 obtain ⟨⟨ua, uc⟩, rfl⟩ := h.upds.shape
 clear h
 simp only [Bf]
 obtain ⟨Q, hQ, hQ1, HB0⟩ := AI w [.cells (c7 r sa sc ra rc oa oc ua uc) 28, .cells #[.bool c] 4, .cells z7 28]
 simp only [List.foldl] at hQ1
 have hQb := hQ.below
 have HIn := zh (Pv r 2 (Sm r c) (Vb r c) 117 #[.pointer (some ⟨w.heap.size + 1, 0, none⟩)] (fun _ => False) (fun _ => True) _ _ _ _ _ _ (H.out.below (hQb _ hQ1)) (fun _ h => h.elim) (fun _ _ _ _ => trivial) (fun _ _ => rfl) (fun h => SA r c _ _ (HB0 _ hQ1 1 _ rfl) (Kq h (by decide)).1 (Kq h (by decide)).2))
 simp only [Bf] at HIn
 have y0 := Aa (j := 0) (HB0 _ hQ1 0 _ rfl) rfl
 have y1 := Aa (j := 1) (HB0 _ hQ1 0 _ rfl) rfl
 have y2 := Aa (j := 2) (HB0 _ hQ1 0 _ rfl) rfl
 have y3 := Aa (j := 3) (HB0 _ hQ1 0 _ rfl) rfl
 have y4 := Aa (j := 4) (HB0 _ hQ1 0 _ rfl) rfl
 have y5 := Aa (j := 5) (HB0 _ hQ1 0 _ rfl) rfl
 have y6 := Aa (j := 6) (HB0 _ hQ1 0 _ rfl) rfl
 simp only [Nat.add_zero] at y0 y1 y2 y3 y4 y5 y6
 go_enter Tryz.func55, Tryz.ntmps55
 go_wp2_with fail
 refine HIn.out.mono ?_
 rintro e x1 hpost
 obtain ⟨s5, r5, o5, u5, rfl, hr5, hu5, _, _⟩ := hpost
 generalize hX : To r 2 (Sm r c) (Vb r c) = X at *
 generalize hE : Rw r 2 (Sm r c) = E at *
 obtain ⟨sa5, Ed, rfl⟩ := hr5.store.vshape
 obtain ⟨⟨ra5, rc5⟩, rfl⟩ := hr5.refs.shape
 obtain ⟨oa5, oc5, rfl⟩ := hr5.objs.vshape
 obtain ⟨⟨ua5, uc5⟩, rfl⟩ := hr5.upds.shape
 have hb1 := JT hu5
 have hz1 := Ak (HB0 _ hQ1 2 _ rfl) hb1
 have g0 := Aa (j := 0) hz1 rfl
 have g1 := Aa (j := 1) hz1 rfl
 have g2 := Aa (j := 2) hz1 rfl
 have g3 := Aa (j := 3) hz1 rfl
 have g4 := Aa (j := 4) hz1 rfl
 have g5 := Aa (j := 5) hz1 rfl
 have g6 := Aa (j := 6) hz1 rfl
 have f0 := Ab (j := 0) hz1
 have f1 := Ab (j := 1) hz1
 have f2 := Ab (j := 2) hz1
 have f3 := Ab (j := 3) hz1
 have f4 := Ab (j := 4) hz1
 have f5 := Ab (j := 5) hz1
 have f6 := Ab (j := 6) hz1
 have HW := zh (Bz (v0 := .slice sa5 X.store.length Ed) (v1 := .slice ra5 X.refs.length rc5) (v2 := .int .i64 X.gen) (v3 := .int .i64 X.phase) (v4 := .slice oa5 X.pend.objects.length oc5) (v5 := .slice ua5 X.pend.updates.length uc5) (v6 := .bool X.pend.force) hz1)
 have HU := zh (AY (w.heap.size + 2) (.slice sa5 X.store.length Ed) (.slice ra5 X.refs.length rc5) (.int .i64 X.gen) (.int .i64 X.phase) (.slice oa5 X.pend.objects.length oc5) (.slice ua5 X.pend.updates.length uc5) (.bool X.pend.force) x1)
 have HBx := zh (Aj (hQb _ hQ1) hb1)
 have Hr5 := zh hr5
 have HX := zh hX
 have HE := zh hE
 clear hX hE hr5 hu5 hb1 hz1
 simp only [Bf]
 go_wp2_with fail
 change bodyPost _ _ _ _ _ (Bt (w.heap.size + 2) (.slice sa5 X.store.length Ed) (.slice ra5 X.refs.length rc5) (.int .i64 X.gen) (.int .i64 X.phase) (.slice oa5 X.pend.objects.length oc5) (.slice ua5 X.pend.updates.length uc5) (.bool X.pend.force) x1)
 generalize Bt (w.heap.size + 2) (.slice sa5 X.store.length Ed) (.slice ra5 X.refs.length rc5) (.int .i64 X.gen) (.int .i64 X.phase) (.slice oa5 X.pend.objects.length oc5) (.slice ua5 X.pend.updates.length uc5) (.bool X.pend.force) x1 = z at *
 have k0 := Aa (j := 0) HW.out rfl
 have k1 := Aa (j := 1) HW.out rfl
 have k2 := Aa (j := 2) HW.out rfl
 have k3 := Aa (j := 3) HW.out rfl
 have k4 := Aa (j := 4) HW.out rfl
 have k5 := Aa (j := 5) HW.out rfl
 have k6 := Aa (j := 6) HW.out rfl
 refine bodyPost_ret (v := .tuple #[.agg (c7 X sa5 Ed ra5 rc5 oa5 oc5 ua5 uc5), .int .i64 E]) (by simp [results, Tryz.results55, go_sem]; simp [k0, k1, k2, k3, k4, k5, k6] <;> rfl) rfl ?_
 have hs := (hQb _ hQ1).size
 have hX2 : LV r c = X := HX.out
 have hE2 : JX r c = E := HE.out
 refine ⟨_, _, _, _, by rw [hX2, hE2]; rfl, ?_, HBx.out.trans (HU.out.below (B := w.heap.size) HBx.out.size (fun b hb => by omega))⟩
 rw [hX2]
 exact (AH.upd Hr5.out HU.out (fun b hb e => by simp only [World.size_alloc] at hb; omega)).weaken (S' := fun b => w.heap.size ≤ b) (fun b hb => by simp only [World.size_alloc] at hb; omega)
theorem UH (r : An) (sv rv ov2 uv2 : Value) (S : Nat → Prop) (w : World) (h : AH S w r sv rv ov2 uv2) :
  Calls Tryz.prog 23 #[Bf r sv rv ov2 uv2] w fun e w' => FL w w' e (Ns r) (Al r) := by
 have H := zh h
 obtain ⟨sa, sc, rfl⟩ := h.store.vshape
 obtain ⟨⟨ra, rc⟩, rfl⟩ := h.refs.shape
 obtain ⟨oa, oc, rfl⟩ := h.objs.vshape
 obtain ⟨⟨ua, uc⟩, rfl⟩ := h.upds.shape
 clear h
 simp only [Bf]
 obtain ⟨Q, hQ, hQ1, HB0⟩ := AI w [.cells (c7 r sa sc ra rc oa oc ua uc) 28, .cells z7 28]
 simp only [List.foldl] at hQ1
 have hQb := hQ.below
 have HIn := zh (Pv r r.phase 0 (DD r) 79 #[] (fun _ => False) (fun _ => True) _ _ _ _ _ _ (H.out.below (hQb _ hQ1)) (fun _ h => h.elim) (fun _ _ _ _ => trivial) (fun _ _ => rfl) (fun h => Uu r _))
 simp only [Bf] at HIn
 rw [(Th r).1, (Th r).2] at HIn
 have y0 := Aa (j := 0) (HB0 _ hQ1 0 _ rfl) rfl
 have y1 := Aa (j := 1) (HB0 _ hQ1 0 _ rfl) rfl
 have y2 := Aa (j := 2) (HB0 _ hQ1 0 _ rfl) rfl
 have y3 := Aa (j := 3) (HB0 _ hQ1 0 _ rfl) rfl
 have y4 := Aa (j := 4) (HB0 _ hQ1 0 _ rfl) rfl
 have y5 := Aa (j := 5) (HB0 _ hQ1 0 _ rfl) rfl
 have y6 := Aa (j := 6) (HB0 _ hQ1 0 _ rfl) rfl
 simp only [Nat.add_zero] at y0 y1 y2 y3 y4 y5 y6
 go_enter Tryz.func23, Tryz.ntmps23
 go_wp2_with fail
 refine HIn.out.mono ?_
 rintro e x1 hpost
 obtain ⟨s5, r5, o5, u5, rfl, hr5, hu5, _, _⟩ := hpost
 generalize hX : Ns r = X at *
 generalize hE : Al r = E at *
 obtain ⟨sa5, Ed, rfl⟩ := hr5.store.vshape
 obtain ⟨⟨ra5, rc5⟩, rfl⟩ := hr5.refs.shape
 obtain ⟨oa5, oc5, rfl⟩ := hr5.objs.vshape
 obtain ⟨⟨ua5, uc5⟩, rfl⟩ := hr5.upds.shape
 have hb1 := JT hu5
 have hz1 := Ak (HB0 _ hQ1 1 _ rfl) hb1
 have g0 := Aa (j := 0) hz1 rfl
 have g1 := Aa (j := 1) hz1 rfl
 have g2 := Aa (j := 2) hz1 rfl
 have g3 := Aa (j := 3) hz1 rfl
 have g4 := Aa (j := 4) hz1 rfl
 have g5 := Aa (j := 5) hz1 rfl
 have g6 := Aa (j := 6) hz1 rfl
 have f0 := Ab (j := 0) hz1
 have f1 := Ab (j := 1) hz1
 have f2 := Ab (j := 2) hz1
 have f3 := Ab (j := 3) hz1
 have f4 := Ab (j := 4) hz1
 have f5 := Ab (j := 5) hz1
 have f6 := Ab (j := 6) hz1
 have HW := zh (Bz (v0 := .slice sa5 X.store.length Ed) (v1 := .slice ra5 X.refs.length rc5) (v2 := .int .i64 X.gen) (v3 := .int .i64 X.phase) (v4 := .slice oa5 X.pend.objects.length oc5) (v5 := .slice ua5 X.pend.updates.length uc5) (v6 := .bool X.pend.force) hz1)
 have HU := zh (AY (w.heap.size + 1) (.slice sa5 X.store.length Ed) (.slice ra5 X.refs.length rc5) (.int .i64 X.gen) (.int .i64 X.phase) (.slice oa5 X.pend.objects.length oc5) (.slice ua5 X.pend.updates.length uc5) (.bool X.pend.force) x1)
 have HBx := zh (Aj (hQb _ hQ1) hb1)
 have Hr5 := zh hr5
 have HX := zh hX
 have HE := zh hE
 clear hX hE hr5 hu5 hb1 hz1
 simp only [Bf]
 go_wp2_with fail
 change bodyPost _ _ _ _ _ (Bt (w.heap.size + 1) (.slice sa5 X.store.length Ed) (.slice ra5 X.refs.length rc5) (.int .i64 X.gen) (.int .i64 X.phase) (.slice oa5 X.pend.objects.length oc5) (.slice ua5 X.pend.updates.length uc5) (.bool X.pend.force) x1)
 generalize Bt (w.heap.size + 1) (.slice sa5 X.store.length Ed) (.slice ra5 X.refs.length rc5) (.int .i64 X.gen) (.int .i64 X.phase) (.slice oa5 X.pend.objects.length oc5) (.slice ua5 X.pend.updates.length uc5) (.bool X.pend.force) x1 = z at *
 have k0 := Aa (j := 0) HW.out rfl
 have k1 := Aa (j := 1) HW.out rfl
 have k2 := Aa (j := 2) HW.out rfl
 have k3 := Aa (j := 3) HW.out rfl
 have k4 := Aa (j := 4) HW.out rfl
 have k5 := Aa (j := 5) HW.out rfl
 have k6 := Aa (j := 6) HW.out rfl
 refine bodyPost_ret (v := .tuple #[.agg (c7 X sa5 Ed ra5 rc5 oa5 oc5 ua5 uc5), .int .i64 E]) (by simp [results, Tryz.results23, go_sem]; simp [k0, k1, k2, k3, k4, k5, k6] <;> rfl) rfl ?_
 have hs := (hQb _ hQ1).size
 have hX2 : Ns r = X := HX.out
 have hE2 : Al r = E := HE.out
 refine ⟨_, _, _, _, by rw [hX2, hE2]; rfl, ?_, HBx.out.trans (HU.out.below (B := w.heap.size) HBx.out.size (fun b hb => by omega))⟩
 rw [hX2]
 exact (AH.upd Hr5.out HU.out (fun b hb e => by simp only [World.size_alloc] at hb; omega)).weaken (S' := fun b => w.heap.size ≤ b) (fun b hb => by simp only [World.size_alloc] at hb; omega)
theorem Vs (r : An) (sv rv ov2 uv2 : Value) (S : Nat → Prop) (w : World) (h : AH S w r sv rv ov2 uv2) (ht : QG w) :
  Calls Tryz.prog 54 #[Bf r sv rv ov2 uv2] w fun e w' => ∃ svt rvt ovt uvt, e = .returned (.tuple #[Bf (Ox r) svt rvt ovt uvt, .string (Ma r), .int .i64 (Im r 1)]) ∧ AH (fun b => w.heap.size ≤ b) w' (Ox r) svt rvt ovt uvt ∧ Below w.heap.size w w' := by
 have H := zh h
 have HTb := zh ht
 obtain ⟨sa, sc, rfl⟩ := h.store.vshape
 obtain ⟨⟨ra, rc⟩, rfl⟩ := h.refs.shape
 obtain ⟨oa, oc, rfl⟩ := h.objs.vshape
 obtain ⟨⟨ua, uc⟩, rfl⟩ := h.upds.shape
 clear h ht
 simp only [Bf]
 obtain ⟨Q, hQ, hQ1, HB0⟩ := AI w [.cells (c7 r sa sc ra rc oa oc ua uc) 28, .cells z7 28, .cells #[.string ByteArray.empty] 9]
 simp only [List.foldl] at hQ1
 have hQb := hQ.below
 have HIn := zh (Pv r 1 0 (Cb r) 116 #[.pointer (some ⟨w.heap.size + 2, 0, none⟩)] (fun b => b = w.heap.size + 2) (fun y => y.cell? ⟨w.heap.size + 2, 0, none⟩ = some (.string (Cu r r.pend))) _ _ _ _ _ _ (H.out.below (hQb _ hQ1)) (fun b hb => by subst hb; exact lt_of_block (HB0 _ hQ1 2 _ rfl)) (fun y z hy hu => hu.cell hy (by have := lt_of_block (HB0 _ hQ1 2 _ rfl); show ¬ _ ≤ w.heap.size + 2; omega)) (fun _ _ => rfl) (fun h => VT r _ _ (HB0 _ hQ1 2 _ rfl) (Kq h (by decide)).1 (Kq h (by decide)).2 (HTb.out.below (hQb _ hQ1))))
 simp only [Bf] at HIn
 rw [(Ti r).1, (Ti r).2] at HIn
 have y0 := Aa (j := 0) (HB0 _ hQ1 0 _ rfl) rfl
 have y1 := Aa (j := 1) (HB0 _ hQ1 0 _ rfl) rfl
 have y2 := Aa (j := 2) (HB0 _ hQ1 0 _ rfl) rfl
 have y3 := Aa (j := 3) (HB0 _ hQ1 0 _ rfl) rfl
 have y4 := Aa (j := 4) (HB0 _ hQ1 0 _ rfl) rfl
 have y5 := Aa (j := 5) (HB0 _ hQ1 0 _ rfl) rfl
 have y6 := Aa (j := 6) (HB0 _ hQ1 0 _ rfl) rfl
 simp only [Nat.add_zero] at y0 y1 y2 y3 y4 y5 y6
 go_enter Tryz.func54, Tryz.ntmps54
 go_wp2_with fail
 refine HIn.out.mono ?_
 rintro e x1 ⟨s5, r5, o5, u5, rfl, hr5, hu5, hk5, hn5⟩
 have hS : x1.cell? ⟨w.heap.size + 2, 0, none⟩ = some (.string (Ma r)) := by
  unfold Ma
  by_cases hz : Im r 1 = 0
  ·rw [if_pos hz]; exact hk5 hz
  ·rw [if_neg hz]; exact Aa (Ak (HB0 _ hQ1 2 _ rfl) (hn5 hz)) rfl
 have hz1 := hu5.blk (HB0 _ hQ1 1 _ rfl) (by omega)
 have hUw : Av (fun b => b = w.heap.size + 2) w x1 := (Fz (hQb _ hQ1)).weaken (fun _ _ h => h.elim) |>.trans hu5 (fun b hb e => e)
 have hB1 : Below w.heap.size w x1 := ⟨hUw.os, hUw.tape, hUw.output, hUw.size, fun b hb => hUw.block b hb (by omega)⟩
 generalize hX : Ox r = X at *
 obtain ⟨sa5, Ed, rfl⟩ := hr5.store.vshape
 obtain ⟨⟨ra5, rc5⟩, rfl⟩ := hr5.refs.shape
 obtain ⟨oa5, oc5, rfl⟩ := hr5.objs.vshape
 obtain ⟨⟨ua5, uc5⟩, rfl⟩ := hr5.upds.shape
 have hs1 := hu5.size
 simp only [World.size_alloc] at hs1
 have hr6 := (AH.below hr5 ((Below.refl _ _).alloc (Nat.le_refl _) (.cells (c7 X sa5 Ed ra5 rc5 oa5 oc5 ua5 uc5) 28))).weaken (S' := fun b => w.heap.size + 3 ≤ b) (fun b hb => by simp only [World.size_alloc] at hb; omega)
 have hz6 := Ak hz1 ((Below.refl _ _).alloc (Nat.le_refl _) (.cells (c7 X sa5 Ed ra5 rc5 oa5 oc5 ua5 uc5) 28))
 have hS6 := Ai ((Below.refl x1.heap.size x1).alloc (Nat.le_refl _) (.cells (c7 X sa5 Ed ra5 rc5 oa5 oc5 ua5 uc5) 28)) hS
 have hB6 := hB1.alloc hB1.size (.cells (c7 X sa5 Ed ra5 rc5 oa5 oc5 ua5 uc5) 28)
 have hX6 := heap_alloc_new x1 (.cells (c7 X sa5 Ed ra5 rc5 oa5 oc5 ua5 uc5) 28)
 have Hr6 := zh hr6
 have Hz6 := zh hz6
 have HS6 := zh hS6
 have HB6 := zh hB6
 have HX6 := zh hX6
 have HX := zh hX
 clear hr6 hz6 hS6 hB6 hX6 hX hS hz1 hr5 hu5 hk5 hn5 hUw hB1 y0 y1 y2 y3 y4 y5 y6 HIn
 simp only [Bf]
 go_wp2_with fail
 generalize x1.alloc (.cells (c7 X sa5 Ed ra5 rc5 oa5 oc5 ua5 uc5) 28) = x2 at *
 have hX6 := HX6.out
 have HD6 := zh (show w.heap.size + 3 ≤ x1.heap.size from hs1)
 clear hs1
 generalize x1.heap.size = D at *
 obtain ⟨R, hR, hR1, _⟩ := Ay x2
 have hRb := hR.below
 have hbd : Below x2.heap.size x2 x2.drew := (Below.refl _ _).drew
 obtain ⟨C, hC0, hCp, hCi⟩ := VK (fun z : World => z.heap[D]? = some (.cells (c7 X sa5 Ed ra5 rc5 oa5 oc5 ua5 uc5) 28 (0, 0)) ∧ z.cell? ⟨w.heap.size + 2, 0, none⟩ = some (.string (Ma r))) (x := x2.drew) (And.intro (Ak hX6 hbd) (Ai hbd HS6.out))
 have HCi := zh hCi
 clear hCi
 refine wp_region_held (S := In C) (by kernel_rfl) ?_
 change wpAnyH _ _ _ _ _ _ _ _ (World.drew _)
 have Hz7 := zh (Ak Hz6.out hbd)
 have Hr7 := zh (Hr6.out.below hbd)
 have HB7 := zh (HB6.out.drew)
 clear Hz6 Hr6 HB6 HS6 HX6 hX6 hbd
 generalize x2.drew = x0 at *
 refine tk 0 (.agg (c7 X sa5 Ed ra5 rc5 oa5 oc5 ua5 uc5)) (fun w hSw => ?_) hC0 ?_
 ·have z0 := Aa (j := 0) (hCp _ hSw).1 rfl; have z1 := Aa (j := 1) (hCp _ hSw).1 rfl; have z2 := Aa (j := 2) (hCp _ hSw).1 rfl; have z3 := Aa (j := 3) (hCp _ hSw).1 rfl; have z4 := Aa (j := 4) (hCp _ hSw).1 rfl; have z5 := Aa (j := 5) (hCp _ hSw).1 rfl; have z6 := Aa (j := 6) (hCp _ hSw).1 rfl; go_simp
 simp only [tkS]
 refine tk 1 (.string (Ma r)) (fun w hSw => ?_) hC0 ?_
 ·have z0 := (hCp _ hSw).2; go_simp
 simp only [tkS]
 refine tk 2 (.int .i64 (Im r 1)) (fun w hSw => ?_) hC0 ?_
 ·go_simp
 simp only [tkS]
 refine al1 3 ?_
 refine Or.inl ?_
 have hz7 := Hz7.out
 have g0 := Aa (j := 0) hz7 rfl
 have g1 := Aa (j := 1) hz7 rfl
 have g2 := Aa (j := 2) hz7 rfl
 have g3 := Aa (j := 3) hz7 rfl
 have g4 := Aa (j := 4) hz7 rfl
 have g5 := Aa (j := 5) hz7 rfl
 have g6 := Aa (j := 6) hz7 rfl
 have f0 := Ab (j := 0) hz7
 have f1 := Ab (j := 1) hz7
 have f2 := Ab (j := 2) hz7
 have f3 := Ab (j := 3) hz7
 have f4 := Ab (j := 4) hz7
 have f5 := Ab (j := 5) hz7
 have f6 := Ab (j := 6) hz7
 have HW := zh (Bz (v0 := .slice sa5 X.store.length Ed) (v1 := .slice ra5 X.refs.length rc5) (v2 := .int .i64 X.gen) (v3 := .int .i64 X.phase) (v4 := .slice oa5 X.pend.objects.length oc5) (v5 := .slice ua5 X.pend.updates.length uc5) (v6 := .bool X.pend.force) hz7)
 have HU := zh (AY (w.heap.size + 1) (.slice sa5 X.store.length Ed) (.slice ra5 X.refs.length rc5) (.int .i64 X.gen) (.int .i64 X.phase) (.slice oa5 X.pend.objects.length oc5) (.slice ua5 X.pend.updates.length uc5) (.bool X.pend.force) x0)
 have hC7 := HCi.out _ (And.intro (HU.out.blk (hCp _ hC0).1 (by have := HD6.out; omega)) (HU.out.cell (hCp _ hC0).2 (by show ¬ w.heap.size + 2 = w.heap.size + 1; omega)))
 clear hz7
 go_wp2_with fail
 first | refine ⟨hC7, ?_⟩ | skip
 change wpAnyH _ _ _ _ _ _ _ _ (Bt (w.heap.size + 1) (.slice sa5 X.store.length Ed) (.slice ra5 X.refs.length rc5) (.int .i64 X.gen) (.int .i64 X.phase) (.slice oa5 X.pend.objects.length oc5) (.slice ua5 X.pend.updates.length uc5) (.bool X.pend.force) x0)
 have hC1 := hC7
 generalize Bt (w.heap.size + 1) (.slice sa5 X.store.length Ed) (.slice ra5 X.refs.length rc5) (.int .i64 X.gen) (.int .i64 X.phase) (.slice oa5 X.pend.objects.length oc5) (.slice ua5 X.pend.updates.length uc5) (.bool X.pend.force) x0 = x1 at *
 refine tk 4 (.string (Ma r)) (fun w hSw => ?_) hC1 ?_
 ·go_simp
 simp only [tkS]
 refine tk 5 (.int .i64 (Im r 1)) (fun w hSw => ?_) hC1 ?_
 ·go_simp
 simp only [tkS]
 first | refine wpAnyH_done (by kernel_rfl) ?_ _ | refine ⟨by kernel_rfl, ?_⟩
 go_wp2_with fail
 have k0 := Aa (j := 0) HW.out rfl
 have k1 := Aa (j := 1) HW.out rfl
 have k2 := Aa (j := 2) HW.out rfl
 have k3 := Aa (j := 3) HW.out rfl
 have k4 := Aa (j := 4) HW.out rfl
 have k5 := Aa (j := 5) HW.out rfl
 have k6 := Aa (j := 6) HW.out rfl
 refine bodyPost_ret (v := .tuple #[.agg (c7 X sa5 Ed ra5 rc5 oa5 oc5 ua5 uc5), .string (Ma r), .int .i64 (Im r 1)]) (by simp [results, Tryz.results54, go_sem]; simp [k0, k1, k2, k3, k4, k5, k6] <;> rfl) rfl ?_
 rw [HX.out]
 refine ⟨_, _, _, _, by rfl, (AH.upd Hr7.out HU.out (fun b hb e => by omega)).weaken (S' := fun b => w.heap.size ≤ b) (fun b hb => by omega), HB7.out.trans (HU.out.below (B := w.heap.size) HB7.out.size (fun b hb => by omega))⟩
end Go.Proofs.YtjdgpgfiomnjkaaGreatDoor
