/- CluA: CluA, CluB, Ve, PR. -/
import Derived.Test.YtjdgpgfiomnjkaaGreatDoorT20
set_option linter.all false
set_option maxHeartbeats 4000000
set_option maxRecDepth 100000
namespace Go.Proofs.YtjdgpgfiomnjkaaGreatDoor
open Go.RowKit
theorem Ah.bytes {S : Nat → Prop} {w : World} {v : Value} {l : List Obj} (h : Ah S w v l) : l.length * 56 ≤ 140737488351232 :=
 let ⟨_, ⟨_, _, _, _, _, h3, _⟩, _⟩ := h; h3
def Tb (S : Nat → Prop) (w : World) (p : BJ) (ov uv : Value) : Prop := Ah S w ov p.objects ∧ AM S w uv p.updates
theorem Tb.below {S : Nat → Prop} {w w' : World} {p : BJ} {ov uv : Value} (h : Tb S w p ov uv) (hb : Below w.heap.size w w') : Tb S w' p ov uv := ⟨h.1.below hb, h.2.below hb⟩
theorem LK (p : BJ) (ov uv : Value) (S S1 : Nat → Prop) (w : World) (ho : Ah S w ov p.objects) (hu : AM S1 w uv p.updates) :
  Calls Tryz.prog 78 #[EH p ov uv] w fun e w' => Vu w w' e p := by
 have H := zh (And.intro ho hu)
 obtain ⟨oa, oc, rfl⟩ := ho.vshape
 obtain ⟨⟨ua, uc⟩, rfl⟩ := hu.shape
 have h56 := ho.bytes
 have h32 := hu.bytes
 clear ho hu
 simp only [EH]
 obtain ⟨Q, hQ, hQ1, HB0⟩ := AI w [.cells #[.slice oa p.objects.length oc, .slice ua p.updates.length uc, .bool p.force] 26, .cells #[.slice none 0 0, .slice none 0 0, .bool false] 26]
 simp only [List.foldl] at hQ1
 have hQn := hQ.next
 have hQb := hQ.below
 have HZ := zh (fun x (hx : In Q x) => HB0 x hx 1 _ rfl)
 have HN := zh (fun x (hx : In Q x) => show w.heap.size + 2 ≤ x.heap.size from lt_of_block (HB0 x hx 1 _ rfl))
 have HS : ∀ x, In Q x → (fun x : World => x.cell? ⟨w.heap.size, 0, none⟩ = some (.slice oa p.objects.length oc) ∧ x.cell? ⟨w.heap.size, 1, none⟩ = some (.slice ua p.updates.length uc) ∧ x.cell? ⟨w.heap.size, 2, none⟩ = some (.bool p.force)) x := fun x hx => ⟨Aa (j := 0) (HB0 x hx 0 _ rfl) rfl, Aa (j := 1) (HB0 x hx 0 _ rfl) rfl, Aa (j := 2) (HB0 x hx 0 _ rfl) rfl⟩
 have HA := zh (fun x (hx : In Q x) => Ia p.objects _ _ x (H.out.1.below (hQb _ hx)))
 have HU := zh (fun x (hx : In Q x) => Ki p.updates _ _ x (H.out.2.below (hQb _ hx)))
 clear HB0
 go_enter Tryz.func78, Tryz.ntmps78
 go_wp2_with fail
 refine wp_region_held (S := (fun x : World => x.cell? ⟨w.heap.size, 0, none⟩ = some (.slice oa p.objects.length oc) ∧ x.cell? ⟨w.heap.size, 1, none⟩ = some (.slice ua p.updates.length uc) ∧ x.cell? ⟨w.heap.size, 2, none⟩ = some (.bool p.force))) (by kernel_rfl) ?_
 change wpAnyH _ _ _ _ _ _ _ _ (World.drew _)
 have hC0 := hQ.drew _ hQ1
 generalize ((w.alloc _).alloc _).drew = x0 at hC0 ⊢
 clear hQ1
 have hS0 := HS _ hC0
 refine tk 0 (.pointer (some ⟨w.heap.size, 0, none⟩)) (fun w hSw => ?_) hS0 ?_
 ·go_simp
 simp only [tkS]
 refine tk 1 (.slice oa p.objects.length oc) (fun w hSw => ?_) hS0 ?_
 ·have yy := hSw.1; go_simp
 simp only [tkS]
 refine tk 3 (.pointer (some ⟨w.heap.size, 1, none⟩)) (fun w hSw => ?_) hS0 ?_
 ·go_simp
 simp only [tkS]
 refine tk 4 (.slice ua p.updates.length uc) (fun w hSw => ?_) hS0 ?_
 ·have yy := hSw.2.1; go_simp
 simp only [tkS]
 refine tk 6 (.pointer (some ⟨w.heap.size, 2, none⟩)) (fun w hSw => ?_) hS0 ?_
 ·go_simp
 simp only [tkS]
 refine tk 7 (.bool p.force) (fun w hSw => ?_) hS0 ?_
 ·have yy := hSw.2.2; go_simp
 simp only [tkS]
 refine al1 2 ?_
 refine Or.inl ?_
 go_wp2_with fail
 refine (HA.out _ hC0).mono ?_
 rintro e x1 ⟨vA, rfl, hvA, hb2⟩
 have hC1 := hQn _ _ hC0 hb2
 have hs0 := HN.out _ hC0
 obtain ⟨a1, c1, rfl⟩ := hvA.gath.shape
 have HvA := zh ((hvA.store h56).weaken (S' := fun b => w.heap.size + 2 ≤ b) (fun b hb => by omega))
 clear hvA
 clear hb2
 have hS1 := HS _ hC1
 go_simp
 refine al1 5 ?_
 refine Or.inl ?_
 go_wp2_with fail
 refine (HU.out _ hC1).mono ?_
 rintro e x2 ⟨vU, rfl, hvU, hb5⟩
 have hC2 := hQn _ _ hC1 hb5
 have hs1 := HN.out _ hC1
 obtain ⟨a2, c2, rfl⟩ := hvU.shape
 have HvU := zh ((hvU.mvs h32).weaken (S' := fun b => w.heap.size + 2 ≤ b) (fun b hb => by omega))
 clear hvU
 replace HvA := zh (HvA.out.below hb5)
 clear hb5
 have hS2 := HS _ hC2
 go_simp
 refine al1 8 ?_
 refine Or.inl ?_
 go_simp
 refine al1 9 ?_
 refine Or.inl ?_
 have hblk := HZ.out _ hC2
 have g0 := Aa (j := 0) hblk rfl
 have g1 := Aa (j := 1) hblk rfl
 have g2 := Aa (j := 2) hblk rfl
 have f0 := Ab (j := 0) hblk
 have f1 := Ab (j := 1) hblk
 have f2 := Ab (j := 2) hblk
 have hb3 := Tr (v0 := .slice a1 p.objects.length c1) (v1 := .slice a2 p.updates.length c2) (v2 := .bool p.force) hblk
 have hu3 := QQ (w.heap.size + 1) (.slice a1 p.objects.length c1) (.slice a2 p.updates.length c2) (.bool p.force) x2
 have Hb3 := zh hb3
 have Hu3 := zh hu3
 clear hb3 hu3
 go_wp2_with fail
 refine ⟨by kernel_rfl, ?_⟩
 change Exit.then _ _ _ _ (TT (w.heap.size + 1) (.slice a1 p.objects.length c1) (.slice a2 p.updates.length c2) (.bool p.force) x2)
 have hb3 := Hb3.out
 have hu3 := Hu3.out
 clear Hb3 Hu3
 generalize TT (w.heap.size + 1) (.slice a1 p.objects.length c1) (.slice a2 p.updates.length c2) (.bool p.force) x2 = w3 at *
 have k0 := Aa (j := 0) hb3 rfl
 have k1 := Aa (j := 1) hb3 rfl
 have k2 := Aa (j := 2) hb3 rfl
 clear g0 g1 g2 f0 f1 f2 hblk hb3
 have hsz := (hQb _ hC2).size
 have hB3 : Below w.heap.size w w3 := (hQb _ hC2).trans (hu3.below (B := w.heap.size) hsz (fun b hb => by omega))
 go_wp2_with fail
 refine bodyPost_ret (v := .agg #[.slice a1 p.objects.length c1, .slice a2 p.updates.length c2, .bool p.force]) (by simp [results, Tryz.results78, go_sem]; simp [k0, k1, k2] <;> rfl) rfl ?_
 exact ⟨_, _, rfl, (HvA.out.upd' hu3 (fun b hb e => by omega)).weaken fun b hb => by omega, (HvU.out.upd hu3 (fun b hb e => by omega)).weaken fun b hb => by omega, hB3⟩
theorem MB (r : An) (sv rv ov uv : Value) (S : Nat → Prop) (w : World) (h : AH S w r sv rv ov uv) :
  Calls Tryz.prog 140 #[Bf r sv rv ov uv] w fun e w' => Yj w w' e r := by
 have H := zh h
 have h56 := h.store.bytes
 have h24 := h.refs.bytes
 obtain ⟨sa, sc, rfl⟩ := h.store.vshape
 obtain ⟨⟨ra, rc⟩, rfl⟩ := h.refs.shape
 obtain ⟨oa, oc, rfl⟩ := h.objs.vshape
 obtain ⟨⟨ua, uc⟩, rfl⟩ := h.upds.shape
 clear h
 simp only [Bf]
 obtain ⟨Q, hQ, hQ1, HB0⟩ := AI w [.cells (c7 r sa sc ra rc oa oc ua uc) 28, .cells z7 28]
 simp only [List.foldl] at hQ1
 have hQn := hQ.next
 have hQb := hQ.below
 have HZ := zh (fun x (hx : In Q x) => HB0 x hx 1 _ rfl)
 have HN := zh (fun x (hx : In Q x) => show w.heap.size + 2 ≤ x.heap.size from lt_of_block (HB0 x hx 1 _ rfl))
 have HS : ∀ x, In Q x → (fun x : World => x.cell? ⟨w.heap.size, 0, none⟩ = some (.slice sa r.store.length sc) ∧ x.cell? ⟨w.heap.size, 1, none⟩ = some (.slice ra r.refs.length rc) ∧ x.cell? ⟨w.heap.size, 2, none⟩ = some (.int .i64 r.gen) ∧ x.cell? ⟨w.heap.size, 3, none⟩ = some (.int .i64 r.phase) ∧ x.cell? ⟨w.heap.size, 4, none⟩ = some (.slice oa r.pend.objects.length oc) ∧ x.cell? ⟨w.heap.size, 5, none⟩ = some (.slice ua r.pend.updates.length uc) ∧ x.cell? ⟨w.heap.size, 6, none⟩ = some (.bool r.pend.force)) x := fun x hx => ⟨Aa (j := 0) (HB0 x hx 0 _ rfl) rfl, Aa (j := 1) (HB0 x hx 0 _ rfl) rfl, Aa (j := 2) (HB0 x hx 0 _ rfl) rfl, Aa (j := 3) (HB0 x hx 0 _ rfl) rfl, Aa (j := 4) (HB0 x hx 0 _ rfl) rfl, Aa (j := 5) (HB0 x hx 0 _ rfl) rfl, Aa (j := 6) (HB0 x hx 0 _ rfl) rfl⟩
 have HA := zh (fun x (hx : In Q x) => Ia r.store _ _ x (H.out.store.below (hQb _ hx)))
 have HU := zh (fun x (hx : In Q x) => Ge r.refs _ _ x (H.out.refs.below (hQb _ hx)))
 have HP := zh (fun x (hx : In Q x) => LK r.pend _ _ _ _ x (H.out.objs.below (hQb _ hx)) (H.out.upds.below (hQb _ hx)))
 simp only [EH] at HP
 clear HB0
 go_enter Tryz.func140, Tryz.ntmps140
 go_wp2_with fail
 refine wp_region_held (S := (fun x : World => x.cell? ⟨w.heap.size, 0, none⟩ = some (.slice sa r.store.length sc) ∧ x.cell? ⟨w.heap.size, 1, none⟩ = some (.slice ra r.refs.length rc) ∧ x.cell? ⟨w.heap.size, 2, none⟩ = some (.int .i64 r.gen) ∧ x.cell? ⟨w.heap.size, 3, none⟩ = some (.int .i64 r.phase) ∧ x.cell? ⟨w.heap.size, 4, none⟩ = some (.slice oa r.pend.objects.length oc) ∧ x.cell? ⟨w.heap.size, 5, none⟩ = some (.slice ua r.pend.updates.length uc) ∧ x.cell? ⟨w.heap.size, 6, none⟩ = some (.bool r.pend.force))) (by kernel_rfl) ?_
 change wpAnyH _ _ _ _ _ _ _ _ (World.drew _)
 have hC0 := hQ.drew _ hQ1
 generalize ((w.alloc _).alloc _).drew = x0 at hC0 ⊢
 clear hQ1
 have hS0 := HS _ hC0
 refine tk 0 (.pointer (some ⟨w.heap.size, 0, none⟩)) (fun w hSw => ?_) hS0 ?_
 ·go_simp
 simp only [tkS]
 refine tk 1 (.slice sa r.store.length sc) (fun w hSw => ?_) hS0 ?_
 ·have yy := hSw.1; go_simp
 simp only [tkS]
 refine tk 3 (.pointer (some ⟨w.heap.size, 1, none⟩)) (fun w hSw => ?_) hS0 ?_
 ·go_simp
 simp only [tkS]
 refine tk 4 (.slice ra r.refs.length rc) (fun w hSw => ?_) hS0 ?_
 ·have yy := hSw.2.1; go_simp
 simp only [tkS]
 refine tk 6 (.pointer (some ⟨w.heap.size, 2, none⟩)) (fun w hSw => ?_) hS0 ?_
 ·go_simp
 simp only [tkS]
 refine tk 7 (.int .i64 r.gen) (fun w hSw => ?_) hS0 ?_
 ·have yy := hSw.2.2.1; go_simp
 simp only [tkS]
 refine tk 8 (.pointer (some ⟨w.heap.size, 3, none⟩)) (fun w hSw => ?_) hS0 ?_
 ·go_simp
 simp only [tkS]
 refine tk 9 (.int .i64 r.phase) (fun w hSw => ?_) hS0 ?_
 ·have yy := hSw.2.2.2.1; go_simp
 simp only [tkS]
 refine tk 10 (.pointer (some ⟨w.heap.size, 4, none⟩)) (fun w hSw => ?_) hS0 ?_
 ·go_simp
 simp only [tkS]
 refine tk 11 (.agg #[.slice oa r.pend.objects.length oc, .slice ua r.pend.updates.length uc, .bool r.pend.force]) (fun w hSw => ?_) hS0 ?_
 ·obtain ⟨_, _, _, _, y4, y5, y6⟩ := hSw; go_simp
 simp only [tkS]
 refine al1 2 ?_
 refine Or.inl ?_
 go_wp2_with fail
 refine (HA.out _ hC0).mono ?_
 rintro e x1 ⟨vA, rfl, hvA, hb2⟩
 have hC1 := hQn _ _ hC0 hb2
 have hs0 := HN.out _ hC0
 obtain ⟨a1, c1, rfl⟩ := hvA.gath.shape
 have HvA := zh ((hvA.store h56).weaken (S' := fun b => w.heap.size + 2 ≤ b) (fun b hb => by omega))
 clear hvA
 clear hb2
 have hS1 := HS _ hC1
 go_simp
 refine al1 5 ?_
 refine Or.inl ?_
 go_wp2_with fail
 refine (HU.out _ hC1).mono ?_
 rintro e x2 ⟨vU, rfl, hvU, hb5⟩
 have hC2 := hQn _ _ hC1 hb5
 have hs1 := HN.out _ hC1
 obtain ⟨a2, c2, rfl⟩ := hvU.shape
 have HvU := zh ((hvU.refs h24).weaken (S' := fun b => w.heap.size + 2 ≤ b) (fun b hb => by omega))
 clear hvU
 replace HvA := zh (HvA.out.below hb5)
 clear hb5
 have hS2 := HS _ hC2
 go_simp
 refine al1 12 ?_
 refine Or.inl ?_
 go_wp2_with fail
 refine (HP.out _ hC2).mono ?_
 rintro e x3 ⟨vO, vM, rfl, hvO, hvM, hb12⟩
 have hC3 := hQn _ _ hC2 hb12
 have hs2 := HN.out _ hC2
 obtain ⟨a3, c3, rfl⟩ := hvO.vshape
 obtain ⟨⟨a4, c4⟩, rfl⟩ := hvM.shape
 have HvO := zh (hvO.weaken (S' := fun b => w.heap.size + 2 ≤ b) (fun b hb => by omega))
 have HvM := zh (hvM.weaken (S' := fun b => w.heap.size + 2 ≤ b) (fun b hb => by omega))
 have HvP := zh (show Tb (fun b => w.heap.size + 2 ≤ b) _ r.pend _ _ from ⟨HvO.out, HvM.out⟩)
 clear hvO hvM HvO HvM
 simp only [EH]
 replace HvA := zh (HvA.out.below hb12)
 replace HvU := zh (HvU.out.below hb12)
 clear hb12
 have hS3 := HS _ hC3
 go_simp
 refine al1 13 ?_
 refine Or.inl ?_
 go_simp
 refine al1 14 ?_
 refine Or.inl ?_
 have hblk := HZ.out _ hC3
 have g0 := Aa (j := 0) hblk rfl
 have g1 := Aa (j := 1) hblk rfl
 have g2 := Aa (j := 2) hblk rfl
 have g3 := Aa (j := 3) hblk rfl
 have g4 := Aa (j := 4) hblk rfl
 have g5 := Aa (j := 5) hblk rfl
 have g6 := Aa (j := 6) hblk rfl
 have f0 := Ab (j := 0) hblk
 have f1 := Ab (j := 1) hblk
 have f2 := Ab (j := 2) hblk
 have f3 := Ab (j := 3) hblk
 have f4 := Ab (j := 4) hblk
 have f5 := Ab (j := 5) hblk
 have f6 := Ab (j := 6) hblk
 have hb7 := Bz (v0 := .slice a1 r.store.length c1) (v1 := .slice a2 r.refs.length c2) (v2 := .int .i64 r.gen) (v3 := .int .i64 r.phase) (v4 := .slice a3 r.pend.objects.length c3) (v5 := .slice a4 r.pend.updates.length c4) (v6 := .bool r.pend.force) hblk
 have hu7 := AY (w.heap.size + 1) (.slice a1 r.store.length c1) (.slice a2 r.refs.length c2) (.int .i64 r.gen) (.int .i64 r.phase) (.slice a3 r.pend.objects.length c3) (.slice a4 r.pend.updates.length c4) (.bool r.pend.force) x3
 have Hb7 := zh hb7
 have Hu7 := zh hu7
 clear hb7 hu7
 go_wp2_with fail
 refine ⟨by kernel_rfl, ?_⟩
 change Exit.then _ _ _ _ (Bt (w.heap.size + 1) (.slice a1 r.store.length c1) (.slice a2 r.refs.length c2) (.int .i64 r.gen) (.int .i64 r.phase) (.slice a3 r.pend.objects.length c3) (.slice a4 r.pend.updates.length c4) (.bool r.pend.force) x3)
 have hb7 := Hb7.out
 have hu7 := Hu7.out
 clear Hb7 Hu7
 generalize Bt (w.heap.size + 1) (.slice a1 r.store.length c1) (.slice a2 r.refs.length c2) (.int .i64 r.gen) (.int .i64 r.phase) (.slice a3 r.pend.objects.length c3) (.slice a4 r.pend.updates.length c4) (.bool r.pend.force) x3 = w7 at *
 have k0 := Aa (j := 0) hb7 rfl
 have k1 := Aa (j := 1) hb7 rfl
 have k2 := Aa (j := 2) hb7 rfl
 have k3 := Aa (j := 3) hb7 rfl
 have k4 := Aa (j := 4) hb7 rfl
 have k5 := Aa (j := 5) hb7 rfl
 have k6 := Aa (j := 6) hb7 rfl
 clear g0 g1 g2 g3 g4 g5 g6 f0 f1 f2 f3 f4 f5 f6 hblk hb7
 have hsz := (hQb _ hC3).size
 have hB7 : Below w.heap.size w w7 := (hQb _ hC3).trans (hu7.below (B := w.heap.size) hsz (fun b hb => by omega))
 go_wp2_with fail
 refine bodyPost_ret (v := .agg (c7 r a1 c1 a2 c2 a3 c3 a4 c4)) (by simp [results, Tryz.results140, go_sem]; simp [k0, k1, k2, k3, k4, k5, k6] <;> rfl) rfl ?_
 exact ⟨_, _, _, _, rfl, ⟨(HvA.out.upd' hu7 (fun b hb e => by omega)).weaken fun b hb => by omega, (HvU.out.upd hu7 (fun b hb e => by omega)).weaken fun b hb => by omega, (HvP.out.1.upd' hu7 (fun b hb e => by omega)).weaken fun b hb => by omega, (HvP.out.2.upd hu7 (fun b hb e => by omega)).weaken fun b hb => by omega, H.out.gen, H.out.phase⟩, hB7⟩
def Af (l : List An) (i : Nat) : An := at_ Ds l i
theorem Er {l : List An} {i : Nat} (h : i < l.length) : Af l i = l[i] := MR h
structure RV where
 s : Value
 r : Value
 o : Value
 u : Value
def BA (r : An) (x : RV) : List Value := [x.s, x.r, .int .i64 r.gen, .int .i64 r.phase, x.o, x.u, .bool r.pend.force]
def JZ (S : Nat → Prop) (w : World) (r : An) (x : RV) : Prop := AH S w r x.s x.r x.o x.u
def AJ (S : Nat → Prop) (w : World) (v : Value) (l : List An) : Prop :=
 ∃ vs : Nat → RV, Sl S w v 7 120 l.length (fun i => BA (Af l i) (vs i)) ∧ ∀ i, i < l.length → JZ S w (Af l i) (vs i)
theorem AJ.below {S : Nat → Prop} {w w' : World} {v : Value} {l : List An} (h : AJ S w v l) (hb : Below w.heap.size w w') : AJ S w' v l :=
 let ⟨vs, h1, h2⟩ := h; ⟨vs, h1.below hb, fun i hi => (h2 i hi).below hb⟩
theorem AJ.weaken {S S' : Nat → Prop} {w : World} {v : Value} {l : List An} (h : AJ S w v l) (hs : ∀ b, S b → S' b) : AJ S' w v l :=
 let ⟨vs, h1, h2⟩ := h; ⟨vs, h1.weaken hs, fun i hi => (h2 i hi).weaken hs⟩
theorem AJ.nil (S : Nat → Prop) (w : World) (cap : Nat) (a : Option Addr) (h : cap ≤ 9223372036854775807) : AJ S w (.slice a 0 cap) [] :=
 ⟨fun _ => ⟨.nilFunc, .nilFunc, .nilFunc, .nilFunc⟩, ⟨a, cap, rfl, Nat.zero_le _, h, by simp, fun h => absurd h (by simp)⟩, fun i hi => by simp at hi⟩
theorem AJ.vshape {S : Nat → Prop} {w : World} {v : Value} {l : List An} (h : AJ S w v l) : ∃ a c, v = .slice a l.length c :=
 let ⟨_, ⟨a, cap, hv, _⟩, _⟩ := h; ⟨a, cap, hv⟩
theorem AJ.take {S : Nat → Prop} {w : World} {a : Option Addr} {n cap : Nat} {l : List An} (h : AJ S w (.slice a n cap) l) {i : Nat} (hi : i ≤ l.length) : AJ S w (.slice a i cap) (l.take i) := by
 obtain ⟨vs, ⟨a', cap', hv, h1, h2, h3, h4⟩, h5⟩ := h
 cases hv
 have hl : (l.take i).length = i := by rw [List.length_take]; omega
 have he : ∀ j, j < i → Af (l.take i) j = Af l j := fun j hj => by unfold Af at_; simp only [List.getD_eq_getElem?_getD, List.getElem?_take, if_pos hj]
 refine ⟨vs, ⟨a, cap, by rw [hl], by omega, h2, by omega, fun hn => ?_⟩, fun j hj => ?_⟩
 ·obtain ⟨b, off, ha, hS, hc⟩ := h4 (by omega)
  exact ⟨b, off, ha, hS, fun j hj k u hu => hc j (by omega) k u (by show (BA (Af l j) (vs j))[k]? = some u; rw [← he j (by omega)]; exact hu)⟩
 ·rw [he j (by omega)]; exact h5 j (by omega)
structure RA where
 sa : Option Addr
 sc : Nat
 ra : Option Addr
 rc : Nat
 oa : Option Addr
 oc : Nat
 ua : Option Addr
 uc : Nat
def RA.rv (x : RA) (r : An) : RV := ⟨.slice x.sa r.store.length x.sc, .slice x.ra r.refs.length x.rc, .slice x.oa r.pend.objects.length x.oc, .slice x.ua r.pend.updates.length x.uc⟩
theorem JZ.ra {S : Nat → Prop} {w : World} {r : An} {x : RV} (h : JZ S w r x) : ∃ y : RA, x = y.rv r := by
 obtain ⟨sa, sc, e1⟩ := Ah.vshape h.store
 obtain ⟨⟨ra, rc⟩, e2⟩ := AE.shape h.refs
 obtain ⟨oa, oc, e3⟩ := Ah.vshape h.objs
 obtain ⟨⟨ua, uc⟩, e4⟩ := AM.shape h.upds
 exact ⟨⟨sa, sc, ra, rc, oa, oc, ua, uc⟩, by cases x; simp_all [RA.rv]⟩
theorem AJ.open {S : Nat → Prop} {w : World} {v : Value} {l : List An} (h : AJ S w v l) :
  ∃ a n cap, ∃ f : Nat → RA, Hid (n = l.length) ∧ v = .slice a n cap ∧ n ≤ cap ∧ cap ≤ 9223372036854775807 ∧ n * 120 ≤ 140737488351232 ∧
   (0 < n → ∃ b off, a = some ⟨b, off, none⟩ ∧ S b ∧
    (∀ i x, i < n → Below w.heap.size w x → x.cell? ⟨b, off + i * 7, none⟩ = some (.slice (f i).sa (Af l i).store.length (f i).sc)) ∧
    (∀ i x, i < n → Below w.heap.size w x → x.cell? ⟨b, off + i * 7 + 1, none⟩ = some (.slice (f i).ra (Af l i).refs.length (f i).rc)) ∧
    (∀ i x, i < n → Below w.heap.size w x → x.cell? ⟨b, off + i * 7 + 2, none⟩ = some (.int .i64 (Af l i).gen)) ∧
    (∀ i x, i < n → Below w.heap.size w x → x.cell? ⟨b, off + i * 7 + 3, none⟩ = some (.int .i64 (Af l i).phase)) ∧
    (∀ i x, i < n → Below w.heap.size w x → x.cell? ⟨b, off + i * 7 + 4, none⟩ = some (.slice (f i).oa (Af l i).pend.objects.length (f i).oc)) ∧
    (∀ i x, i < n → Below w.heap.size w x → x.cell? ⟨b, off + i * 7 + 5, none⟩ = some (.slice (f i).ua (Af l i).pend.updates.length (f i).uc)) ∧
    (∀ i x, i < n → Below w.heap.size w x → x.cell? ⟨b, off + i * 7 + 6, none⟩ = some (.bool (Af l i).pend.force))) ∧
   (∀ i, i < n → AH S w (Af l i) (.slice (f i).sa (Af l i).store.length (f i).sc) (.slice (f i).ra (Af l i).refs.length (f i).rc) (.slice (f i).oa (Af l i).pend.objects.length (f i).oc) (.slice (f i).ua (Af l i).pend.updates.length (f i).uc)) := by
 obtain ⟨vs, h1, h2⟩ := h
 have hp : ∃ f : Nat → RA, ∀ i, i < l.length → vs i = (f i).rv (Af l i) := by
  refine ⟨fun i => if hi : i < l.length then Classical.choose (h2 i hi).ra else ⟨none, 0, none, 0, none, 0, none, 0⟩, fun i hi => ?_⟩
  simp only [hi, dif_pos]
  exact Classical.choose_spec (h2 i hi).ra
 obtain ⟨f, hf⟩ := hp
 obtain ⟨a, cap, hv, h3, h4, h5, h6⟩ := h1
 refine ⟨a, l.length, cap, f, rfl, hv, h3, h4, h5, fun hn => ?_, fun i hi => ?_⟩
 ·obtain ⟨b, off, ha, hS, hc⟩ := h6 hn
  have hc' : ∀ i x, i < l.length → Below w.heap.size w x → ∀ j u, (BA (Af l i) ((f i).rv (Af l i)))[j]? = some u → x.cell? ⟨b, off + i * 7 + j, none⟩ = some u :=
   fun i x hi hb j u hu => Ai hb (hc i hi j u (by show (BA (Af l i) (vs i))[j]? = some u; rw [hf i hi]; exact hu))
  exact ⟨b, off, ha, hS, fun i x hi hb => hc' i x hi hb 0 _ rfl, fun i x hi hb => hc' i x hi hb 1 _ rfl, fun i x hi hb => hc' i x hi hb 2 _ rfl, fun i x hi hb => hc' i x hi hb 3 _ rfl, fun i x hi hb => hc' i x hi hb 4 _ rfl, fun i x hi hb => hc' i x hi hb 5 _ rfl, fun i x hi hb => hc' i x hi hb 6 _ rfl⟩
 ·have := h2 i hi
  rw [hf i hi] at this; exact this
def AP (l : List An) : Nat → Nat × Nat
 | 0 => (0, 0)
 | k + 1 => if k = 0 ∨ (Af l (AP l k).1).gen < (Af l k).gen then (k, 1) else if (Af l k).gen = (Af l (AP l k).1).gen then ((AP l k).1, (AP l k).2 + 1) else AP l k
theorem La (l : List An) : ∀ k, (AP l k).1 < k ∨ (AP l k).1 = 0
 | 0 => .inr rfl
 | k + 1 => by
  have := La l k
  unfold AP
  split
  ·exact .inl (by simp)
  ·split <;> (left; try dsimp only) <;> omega
theorem IA (l : List An) : ∀ k, (AP l k).2 ≤ k
 | 0 => Nat.le_refl _
 | k + 1 => by
  have := IA l k
  unfold AP
  split
  ·simp
  ·split <;> (try dsimp only) <;> omega
def Co (l : List An) : Nat := (AP l l.length).1
def many (l : List An) : Nat := (AP l l.length).2
theorem MV (l : List An) (v : Value) (S : Nat → Prop) (w : World) (h : AJ S w v l) :
  Calls Tryz.prog 112 #[.agg #[v]] w fun e w' => e = .returned (.tuple #[.int .i64 (Co l), .int .i64 (many l)]) ∧ Below w.heap.size w w' := by
 obtain ⟨a, n, cap, fr, HN, rfl, h1, h2, h3, h4, h5⟩ := h.open
 have HF := zh (show Co l = (AP l n).1 ∧ many l = (AP l n).2 by rw [HN.out]; exact ⟨rfl, rfl⟩)
 clear h h5
 obtain ⟨R, hR, hR1, HB0⟩ := AI w [.cells #[.slice a n cap] 66]
 simp only [List.foldl] at hR1
 have hRb := hR.below
 have hRn := hR.next
 have c0 := fun x (hx : In R x) => Aa (j := 0) (HB0 x hx 0 _ rfl) rfl
 simp only [Nat.add_zero] at c0
 clear HB0
 have cc := c0 _ hR1
 go_enter Tryz.func112, Tryz.ntmps112
 go_wp2_with fail
 clear cc
 go_loopw [4, 5, 12] (fun s4 s5 i wr => ∃ k : Nat, k ≤ n ∧ i = .int .i64 k ∧ s4 = .int .i64 ((AP l k).1 : Nat) ∧ s5 = .int .i64 ((AP l k).2 : Nat) ∧ In R wr) (fun _ _ i _ => n - (intOf i).toNat)
 case atStart => exact ⟨0, by omega, rfl, rfl, rfl, hR1⟩
 obtain ⟨k, hk, rfl, rfl, rfl, hRw⟩ := hrel
 clear hR1
 by_cases hlt : k < n
 ·obtain ⟨b, off, rfl, hb, k0, k1, k2, k3, k4, k5, k6⟩ := h4 (by omega)
  have x0 := k0 k wr hlt (hRb _ hRw)
  have x1 := k1 k wr hlt (hRb _ hRw)
  have x2 := k2 k wr hlt (hRb _ hRw)
  have x3 := k3 k wr hlt (hRb _ hRw)
  have x4 := k4 k wr hlt (hRb _ hRw)
  have x5 := k5 k wr hlt (hRb _ hRw)
  have x6 := k6 k wr hlt (hRb _ hRw)
  obtain ⟨Q, hQ, hQ1, hy⟩ := BW wr #[.slice (fr k).sa (Af l k).store.length (fr k).sc, .slice (fr k).ra (Af l k).refs.length (fr k).rc, .int .i64 (Af l k).gen, .int .i64 (Af l k).phase, .slice (fr k).oa (Af l k).pend.objects.length (fr k).oc, .slice (fr k).ua (Af l k).pend.updates.length (fr k).uc, .bool (Af l k).pend.force] 28
  have y2 := hy 2 _ rfl _ hQ1
  have hR2 := hRn _ _ hRw (hQ.below _ hQ1)
  have hi1 : (0 : Int) ≤ (k : Int) := by omega
  have hi2 : (k : Int) < (n : Int) := by omega
  have Hnx := zh (show AP l (k + 1) = if k = 0 ∨ (Af l (AP l k).1).gen < (Af l k).gen then (k, 1) else if (Af l k).gen = (Af l (AP l k).1).gen then ((AP l k).1, (AP l k).2 + 1) else AP l k from rfl)
  have hml := La l k
  have hmm := IA l k
  generalize hat : (AP l k).1 = at0 at *
  generalize hma : (AP l k).2 = ma at *
  rw [show AP l k = (at0, ma) from Prod.ext hat hma] at Hnx
  have hat1 : at0 < n := by omega
  have xa := k2 at0 _ hat1 (hRb _ hR2)
  have c1 := c0 _ hR2
  have ci := c0 _ hRw
  clear hat hma k0 k1 k2 k3 k4 k5 k6 h4 hy hQ1 hml
  have ha1 : (0 : Int) ≤ (at0 : Int) := by omega
  have ha2 : (at0 : Int) < (n : Int) := by omega
  have hw1 := Bb (n := (ma : Int) + 1) (by omega)
  by_cases hz : k = 0
  ·have Hn2 := zh (show AP l (k + 1) = (k, 1) by rw [Hnx.out, if_pos (.inl hz)])
   have q0 : ((k : Int) == 0) = true := by simp [hz]
   clear hz
   go_wp2_with fail
   go_roundw
   case rel => exact ⟨k + 1, by omega, by go_num, by rw [Hn2.out]; try rfl, by rw [Hn2.out]; try rfl, hR2⟩
   case measure => simp [intOf]; omega
  ·have q0 : ((k : Int) == 0) = false := by simpa using hz
   by_cases hg : (Af l at0).gen < (Af l k).gen
   ·have Hn2 := zh (show AP l (k + 1) = (k, 1) by rw [Hnx.out, if_pos (.inr hg)])
    have q1 : decide ((Af l at0).gen < (Af l k).gen) = true := decide_eq_true hg
    clear hz hg
    go_wp2_with fail
    go_roundw
    case rel => exact ⟨k + 1, by omega, by go_num, by rw [Hn2.out]; try rfl, by rw [Hn2.out]; try rfl, hR2⟩
    case measure => simp [intOf]; omega
   ·have q1 : decide ((Af l at0).gen < (Af l k).gen) = false := decide_eq_false hg
    by_cases he : (Af l k).gen = (Af l at0).gen
    ·have Hn2 := zh (show AP l (k + 1) = (at0, ma + 1) by rw [Hnx.out, if_neg (by simp [hz, hg]), if_pos he])
     have q2 : ((Af l k).gen == (Af l at0).gen) = true := by simpa using he
     clear hz hg he
     go_wp2_with fail
     go_roundw
     case rel => exact ⟨k + 1, by omega, by go_num, by rw [Hn2.out]; try first | rfl | simp, by rw [Hn2.out]; try first | rfl | simp, hR2⟩
     case measure => simp [intOf]; omega
    ·have Hn2 := zh (show AP l (k + 1) = (at0, ma) by rw [Hnx.out, if_neg (by simp [hz, hg]), if_neg he])
     have q2 : ((Af l k).gen == (Af l at0).gen) = false := by simpa using he
     clear hz hg he
     go_wp2_with fail
     go_roundw
     case rel => exact ⟨k + 1, by omega, by go_num, by rw [Hn2.out]; try rfl, by rw [Hn2.out]; try rfl, hR2⟩
     case measure => simp [intOf]; omega
 ·obtain rfl : k = n := by omega
  go_wp2_with fail
  refine bodyPost_ret (v := .tuple #[.int .i64 ((AP l k).1 : Nat), .int .i64 ((AP l k).2 : Nat)]) (by simp [results, Tryz.results112, go_sem] <;> rfl) rfl ?_
  exact ⟨by rw [HF.out.1, HF.out.2], hRb _ hRw⟩
def Ei (l : List An) : Nat → Nat
 | 0 => 0
 | k + 1 => if (Af l (Ei l k)).gen < (Af l k).gen then k else Ei l k
theorem TR (l : List An) : Ei l 1 = 0 := by simp [Ei]
theorem Ra (l : List An) : ∀ k, Ei l k < k ∨ Ei l k = 0
 | 0 => .inr rfl
 | k + 1 => by
  have := Ra l k
  unfold Ei
  split <;> omega
theorem Mh (l : List An) : ∀ k, Ei l k = (AP l k).1
 | 0 => rfl
 | k + 1 => by
  have ih := Mh l k
  unfold Ei AP
  rw [ih]
  by_cases h0 : k = 0
  ·subst h0; simp [AP]
  ·by_cases hg : (Af l (AP l k).1).gen < (Af l k).gen
   ·rw [if_pos hg, if_pos (.inr hg)]
   ·rw [if_neg hg, if_neg (by simp [h0, hg])]
    split <;> rfl
theorem JE (l : List An) (v : Value) (S : Nat → Prop) (w : World) (h : AJ S w v l) :
  Calls Tryz.prog 103 #[.agg #[v]] w fun e w' => e = .returned (.int .i64 (Co l)) ∧ Below w.heap.size w w' := by
 obtain ⟨a, n, cap, fr, HN, rfl, h1, h2, h3, h4, h5⟩ := h.open
 have HF := zh (show Co l = Ei l n by rw [HN.out]; exact (Mh l _).symm)
 clear h h5
 obtain ⟨R, hR, hR1, HB0⟩ := AI w [.cells #[.slice a n cap] 66]
 simp only [List.foldl] at hR1
 have hRb := hR.below
 have hRn := hR.drewN
 have c0 := fun x (hx : In R x) => Aa (j := 0) (HB0 x hx 0 _ rfl) rfl
 simp only [Nat.add_zero] at c0
 clear HB0
 have HT1 := zh (show Ei l 1 = 0 from TR l)
 have HT0 := zh (show Ei l 0 = 0 from rfl)
 go_enter Tryz.func103, Tryz.ntmps103
 go_wp2_with fail
 go_loopw [3, 4] (fun s3 i wr => ∃ k : Nat, 1 ≤ k ∧ (k ≤ n ∨ k = 1) ∧ i = .int .i64 k ∧ s3 = .int .i64 (Ei l k : Nat) ∧ In R wr) (fun _ i _ => n - (intOf i).toNat)
 case atStart => exact ⟨1, by omega, .inr rfl, rfl, by rw [HT1.out]; rfl, hR1⟩
 obtain ⟨k, hk1, hk, rfl, rfl, hRw⟩ := hrel
 clear hR1
 by_cases hlt : k < n
 ·obtain ⟨b, off, rfl, hb, k0, k1, k2, k3, k4, k5, k6⟩ := h4 (by omega)
  have Hnx := zh (show Ei l (k + 1) = if (Af l (Ei l k)).gen < (Af l k).gen then k else Ei l k from rfl)
  have hml := Ra l k
  generalize Ei l k = at0 at *
  have hat1 : at0 < n := by omega
  have x2 : ∀ x, In R x → x.cell? ⟨b, off + k * 7 + 2, none⟩ = some (.int .i64 (Af l k).gen) := fun x hx => k2 k x hlt (hRb x hx)
  have xa : ∀ x, In R x → x.cell? ⟨b, off + at0 * 7 + 2, none⟩ = some (.int .i64 (Af l at0).gen) := fun x hx => k2 at0 x hat1 (hRb x hx)
  clear k0 k1 k2 k3 k4 k5 k6 h4 hml
  have hi1 : (0 : Int) ≤ (k : Int) := by omega
  have hi2 : (k : Int) < (n : Int) := by omega
  have ha1 : (0 : Int) ≤ (at0 : Int) := by omega
  have ha2 : (at0 : Int) < (n : Int) := by omega
  by_cases hg : (Af l at0).gen < (Af l k).gen
  ·have Hn2 := zh (show Ei l (k + 1) = k by rw [Hnx.out, if_pos hg])
   have q1 : decide ((Af l at0).gen < (Af l k).gen) = true := decide_eq_true hg
   clear hg
   go_wp2_with fail
   go_quiet (fail)
   go_wp2_with fail
   go_roundw
   case rel => exact ⟨k + 1, by omega, .inl (by omega), by go_num, by rw [Hn2.out], hRn _ _ hRw⟩
   case measure => simp [intOf]; omega
  ·have Hn2 := zh (show Ei l (k + 1) = at0 by rw [Hnx.out, if_neg hg])
   have q1 : decide ((Af l at0).gen < (Af l k).gen) = false := decide_eq_false hg
   clear hg
   go_wp2_with fail
   go_quiet (fail)
   go_wp2_with fail
   go_roundw
   case rel => exact ⟨k + 1, by omega, .inl (by omega), by go_num, by rw [Hn2.out], hRn _ _ hRw⟩
   case measure => simp [intOf]; omega
 ·have HF2 := zh (show Co l = Ei l k by rw [HF.out]; rcases hk with h | h; rw [show k = n by omega]; rw [h]; by_cases e : n = 0; rw [e, HT0.out, HT1.out]; rw [show n = 1 by omega])
  go_wp2_with fail
  go_ret
  exact ⟨Ae (by rw [HF2.out]), hRb _ hRw⟩
theorem Og (xs ys : List Rf) (v v' : Value) (S S' : Nat → Prop) (w : World) (h1 : AE S w v xs) (h2 : AE S' w v' ys) :
  Calls Tryz.prog 160 #[v, v'] w fun e w' => e = .returned (.bool (Bu xs ys)) ∧ Below w.heap.size w w' := by
 obtain ⟨a, n, cap, HN, rfl, hc1, hc2, hc8, hc, _⟩ := h1.open
 obtain ⟨a', n', cap', HN', rfl, hc1', hc2', hc8', hc', _⟩ := h2.open
 obtain ⟨R, hR, hR1, _⟩ := Ay w
 have hRb := hR.below
 have hRn := hR.drewN
 by_cases hl : n = n'
 ·subst hl
  have Hall := zh (Kc (xs := xs) (ys := ys) (by rw [← HN.out, ← HN'.out]))
  go_enter Tryz.func160, Tryz.ntmps160
  go_wp2
  go_loopw [13] (fun i wr => ∃ k : Nat, k ≤ n ∧ i = .int .i64 k ∧ Hid (∀ j, j < k → Fy (rf xs j) (rf ys j) = true) ∧ In R wr) (fun i _ => n - (intOf i).toNat)
  case atStart => exact ⟨0, by omega, rfl, fun j hj => absurd hj (by omega), hR1⟩
  obtain ⟨k, hk, rfl, Hs, hRw⟩ := hrel
  clear hR1
  by_cases hlt : k < n
  ·obtain ⟨b, off, rfl, hb, k0, k1⟩ := hc (by omega)
   obtain ⟨b', off', rfl, hb', k0', k1'⟩ := hc' (by omega)
   have x0 : ∀ x, In R x → x.cell? ⟨b, off + k * 2, none⟩ = some (.string (rf xs k).name) := fun x hx => k0 k x hlt (hRb x hx)
   have x1 : ∀ x, In R x → x.cell? ⟨b, off + k * 2 + 1, none⟩ = some (.int .i64 (rf xs k).id) := fun x hx => k1 k x hlt (hRb x hx)
   have x0' : ∀ x, In R x → x.cell? ⟨b', off' + k * 2, none⟩ = some (.string (rf ys k).name) := fun x hx => k0' k x hlt (hRb x hx)
   have x1' : ∀ x, In R x → x.cell? ⟨b', off' + k * 2 + 1, none⟩ = some (.int .i64 (rf ys k).id) := fun x hx => k1' k x hlt (hRb x hx)
   clear hc hc' k0 k1 k0' k1'
   have hi1 : (0 : Int) ≤ (k : Int) := by omega
   have hi2 : (k : Int) < (n : Int) := by omega
   have hneq := MK (rf xs k) (rf ys k)
   cases he : Fy (rf xs k) (rf ys k)
   ·rw [he] at hneq
    have Hq := zh (Lt (xs := xs) (ys := ys) (k := k) (by rw [← HN.out]; exact hlt) he); clear he
    go_wp2_with fail
    go_quiet (fail)
    go_wp2
    go_ret
    exact ⟨by rw [Hq.out]; rfl, hRb _ (hRn _ _ hRw)⟩
   ·rw [he] at hneq
    have He := zh he; clear he
    go_wp2_with fail
    go_quiet (fail)
    go_wp2
    go_roundw
    case rel => exact ⟨k + 1, by omega, by go_num, Bp Hs.out He.out, hRn _ _ hRw⟩
    case measure => simp [intOf]; omega
  ·have Hk := zh (show Bu xs ys = true from Hall.out (fun j hj => Hs.out j (by have := HN.out; omega)))
   go_wp2
   go_ret
   exact ⟨by rw [Hk.out]; rfl, hRb _ hRw⟩
 ·have Hl := zh (Kn (xs := xs) (ys := ys) (by rw [← HN.out, ← HN'.out]; exact hl))
  go_enter Tryz.func160, Tryz.ntmps160
  go_wp2
  go_ret
  exact ⟨by rw [Hl.out]; rfl, hRb _ hR1⟩
def Ik (x r : An) : Bool := (x.gen == r.gen) && !Bu x.refs r.refs
theorem Ob (x r : An) (sv rv ov uv : Value) (S S1 : Nat → Prop) (w : World) (h : AH S w x sv rv ov uv) (b : Nat) (rv2 : Value) (hr : AE S1 w rv2 r.refs) (hg : w.cell? ⟨b, 2, none⟩ = some (.int .i64 r.gen)) (hc : w.cell? ⟨b, 1, none⟩ = some rv2) :
  Calls Tryz.prog 159 #[Bf x sv rv ov uv, .pointer (some ⟨b, 0, none⟩)] w fun e w' => e = .returned (.bool (Ik x r)) ∧ Below w.heap.size w w' := by
 have HD := zh (show Ik x r = ((x.gen == r.gen) && !Bu x.refs r.refs) from rfl)
 have H := zh h
 obtain ⟨sa, sc, rfl⟩ := h.store.vshape
 obtain ⟨⟨ra, rc⟩, rfl⟩ := h.refs.shape
 obtain ⟨oa, oc, rfl⟩ := h.objs.vshape
 obtain ⟨⟨ua, uc⟩, rfl⟩ := h.upds.shape
 obtain ⟨⟨ra2, rc2⟩, rfl⟩ := hr.shape
 clear h
 simp only [Bf]
 obtain ⟨Q, hQ, hQ1, hy⟩ := BW w #[.slice sa x.store.length sc, .slice ra x.refs.length rc, .int .i64 x.gen, .int .i64 x.phase, .slice oa x.pend.objects.length oc, .slice ua x.pend.updates.length uc, .bool x.pend.force] 28
 have hQb := hQ.below
 have hQn := hQ.next
 have HE := zh (Og x.refs r.refs _ _ _ _ _ (H.out.refs.below (hQb _ hQ1)) (hr.below (hQb _ hQ1)))
 have y1 := hy 1 _ rfl _ hQ1
 have y2 := hy 2 _ rfl _ hQ1
 have z1 := Ai (hQb _ hQ1) hc
 have z2 := Ai (hQb _ hQ1) hg
 clear hy hc hg hr
 generalize Bu x.refs r.refs = q at *
 cases q2 : (x.gen == r.gen)
 ·rw [q2, Bool.false_and] at HD
  go_enter Tryz.func159, Tryz.ntmps159
  go_wp2_with fail
  go_ret
  exact ⟨by rw [HD.out]; rfl, hQb _ hQ1⟩
 ·rw [q2, Bool.true_and] at HD
  go_enter Tryz.func159, Tryz.ntmps159
  go_wp2_with fail
  refine HE.out.mono ?_
  rintro e w1 ⟨rfl, hb1⟩
  have hQ2 := hQn _ _ hQ1 hb1
  go_wp2_with fail
  go_ret
  exact ⟨by rw [HD.out]; rfl, hQb _ hQ2⟩
def LD (p : An → Bool) (l : List An) : Int := match l.findIdx? p with | some i => (i : Int) | none => -1
theorem TO {l : List An} {p : An → Bool} {k : Nat} (h : ∀ j, j < k → p (Af l j) = false) (hk : k < l.length) (he : p (Af l k) = true) : LD p l = k := by
 unfold LD
 have : l.findIdx? p = some k := by
  rw [List.findIdx?_eq_some_iff_getElem]
  refine ⟨hk, by rw [← Er hk]; exact he, fun j hj => ?_⟩
  have := h j hj
  rw [Er (by omega)] at this
  simp [this]
 rw [this]
theorem SZ {l : List An} {p : An → Bool} (h : ∀ j, j < l.length → p (Af l j) = false) : LD p l = -1 := by
 unfold LD
 have : l.findIdx? p = none := by
  rw [List.findIdx?_eq_none_iff]
  intro x hx
  obtain ⟨i, hi, rfl⟩ := List.getElem_of_mem hx
  have := h i hi
  rwa [Er hi] at this
 rw [this]
theorem QK (p : An → Bool) (l : List An) : (LD p l = -1 ∧ ∀ j, j < l.length → p (Af l j) = false) ∨ ∃ k, k < l.length ∧ LD p l = (k : Int) ∧ p (Af l k) = true := by
 unfold LD
 cases h : l.findIdx? p with
 | none =>
  rw [List.findIdx?_eq_none_iff] at h
  exact .inl ⟨rfl, fun j hj => by rw [Er hj]; exact h _ (List.getElem_mem hj)⟩
 | some k =>
  rw [List.findIdx?_eq_some_iff_getElem] at h
  obtain ⟨hk, he, _⟩ := h
  exact .inr ⟨k, hk, rfl, by rw [Er hk]; exact he⟩
def Vg (g : Nat) (c : Value) (p : An → Bool) (w : World) (l : List An) : Prop :=
 ∀ (x : World) (i : Nat) (S : Nat → Prop) (sv rv ov uv : Value), i < l.length → Below w.heap.size w x → AH S x (Af l i) sv rv ov uv → Calls Tryz.prog g #[Bf (Af l i) sv rv ov uv, c] x fun e w' => e = .returned (.bool (p (Af l i))) ∧ Below x.heap.size x w'
theorem MO (l : List An) (v c : Value) (S : Nat → Prop) (g : Nat) (p : An → Bool) (w : World) (h : AJ S w v l) (eg : ∀ args w, (callFunc g args).run Tryz.prog w = .ok (.enter g args) w) (hp : Vg g c p w l) :
  Calls Tryz.prog 216 #[v, .func (.func g) #[] #[c]] w fun e w' => e = .returned (.int .i64 (LD p l)) ∧ Below w.heap.size w w' := by
 obtain ⟨a, n, cap, fr, HN, rfl, h1, h2, h3, h4, h5⟩ := h.open
 clear h
 obtain ⟨R, hR, hR1, _⟩ := Ay w
 have hRb := hR.below
 have hRn := hR.next
 have Hp := zh (fun x k (hk : k < n) (hx : Below w.heap.size w x) => hp x k S _ _ _ _ (by rw [← HN.out]; exact hk) hx ((h5 k hk).below hx)); clear hp h5
 simp only [Bf] at Hp
 have Hh := zh (fun k h1 hk he => TO (l := l) (p := p) (k := k) h1 (by rw [← HN.out]; exact hk) he)
 have Hn := zh (fun h1 => SZ (l := l) (p := p) (by rw [← HN.out]; exact h1))
 go_enter Tryz.func216, Tryz.ntmps216
 go_wp2_with fail
 go_loopw [8] (fun i wr => ∃ k : Nat, k ≤ n ∧ i = .int .i64 k ∧ Hid (∀ j, j < k → p (Af l j) = false) ∧ In R wr) (fun i _ => n - (intOf i).toNat)
 case atStart => exact ⟨0, by omega, rfl, fun j hj => absurd hj (by omega), hR1⟩
 obtain ⟨k, hk, rfl, Hs, hRw⟩ := hrel
 clear hR1
 by_cases hlt : k < n
 ·obtain ⟨b, off, rfl, hb, k0, k1, k2, k3, k4, k5, k6⟩ := h4 (by omega)
  have x0 := k0 k wr hlt (hRb _ hRw)
  have x1 := k1 k wr hlt (hRb _ hRw)
  have x2 := k2 k wr hlt (hRb _ hRw)
  have x3 := k3 k wr hlt (hRb _ hRw)
  have x4 := k4 k wr hlt (hRb _ hRw)
  have x5 := k5 k wr hlt (hRb _ hRw)
  have x6 := k6 k wr hlt (hRb _ hRw)
  clear h4 k0 k1 k2 k3 k4 k5 k6
  cases hq : p (Af l k)
  ·have He := zh hq
   go_wp2_with fail
   refine (Hp.out _ k hlt (hRb _ hRw)).mono ?_
   rintro e w' ⟨rfl, hb2⟩
   rw [hq]
   have hR2 := hRn _ _ hRw hb2
   go_wp2_with fail
   go_roundw
   case rel => exact ⟨k + 1, by omega, by go_num, Bp Hs.out He.out, hR2⟩
   case measure => simp [intOf]; omega
  ·have HK := zh (Hh.out k Hs.out hlt hq)
   go_wp2_with fail
   refine (Hp.out _ k hlt (hRb _ hRw)).mono ?_
   rintro e w' ⟨rfl, hb2⟩
   rw [hq]
   have hR2 := hRn _ _ hRw hb2
   go_wp2_with fail
   go_ret
   exact ⟨Ae HK.out.symm, hRb _ hR2⟩
 ·obtain rfl : k = n := by omega
  have HK := zh (Hn.out Hs.out)
  go_wp2_with fail
  go_ret
  exact ⟨Ae HK.out.symm, hRb _ hRw⟩
theorem Kp (l : List An) (v c : Value) (S : Nat → Prop) (g : Nat) (p : An → Bool) (w : World) (h : AJ S w v l) (eg : ∀ args w, (callFunc g args).run Tryz.prog w = .ok (.enter g args) w) (hp : Vg g c p w l) :
  Calls Tryz.prog 158 #[v, .func (.func g) #[] #[c]] w fun e w' => e = .returned (.bool (l.any p)) ∧ Below w.heap.size w w' := by
 obtain ⟨q, qc, rfl⟩ := h.vshape
 have Hi := zh (MO l _ c S g p w h eg hp)
 rcases QK p l with ⟨h0, h1⟩ | ⟨k, hk, h0, h1⟩
 ·have Ha := zh (show l.any p = false by
   rw [List.any_eq_false]
   intro x hx
   obtain ⟨i, hi, rfl⟩ := List.getElem_of_mem hx
   have := h1 i hi
   rw [Er hi] at this
   simp [this])
  clear h1 hp
  go_enter Tryz.func158, Tryz.ntmps158
  go_wp2_with fail
  refine Hi.out.mono ?_
  rintro e w' ⟨rfl, hb⟩
  rw [h0]
  go_wp2_with fail
  go_ret
  exact ⟨by rw [Ha.out]; rfl, hb⟩
 ·have Ha := zh (show l.any p = true by
   rw [List.any_eq_true]
   exact ⟨Af l k, by rw [Er hk]; exact List.getElem_mem hk, h1⟩)
  have hd : decide ((0 : Int) ≤ (k : Int)) = true := by simp
  clear h1 hp
  go_enter Tryz.func158, Tryz.ntmps158
  go_wp2_with fail
  refine Hi.out.mono ?_
  rintro e w' ⟨rfl, hb⟩
  rw [h0]
  go_wp2_with fail
  go_ret
  exact ⟨by rw [Ha.out]; first | rfl | simp, hb⟩
theorem AJ.upd {S T : Nat → Prop} {w w' : World} {v : Value} {l : List An} (h : AJ S w v l) (hu : Av T w w') (hT : ∀ b, S b → ¬ T b) : AJ S w' v l := by
 obtain ⟨vs, ⟨a, cap, hv, h1, h2, h3, h4⟩, h5⟩ := h
 refine ⟨vs, ⟨a, cap, hv, h1, h2, h3, fun hn => ?_⟩, fun i hi => AH.upd (h5 i hi) hu hT⟩
 obtain ⟨b, off, ha, hS, hc⟩ := h4 hn
 exact ⟨b, off, ha, hS, fun i hi j u hu2 => hu.cell (hc i hi j u hu2) (hT b hS)⟩
theorem Ak {w w' : World} {D : Nat} {o : Go.Obj} (h : w.heap[D]? = some o) (hb : Below w.heap.size w w') : w'.heap[D]? = some o := (hb.block _ (lt_of_block h)).trans h
def Ve (D : Nat) (w : World) (r : An) : Prop :=
 ∃ sa sc ra rc oa oc ua uc, w.heap[D]? = some (.cells #[.slice sa r.store.length sc, .slice ra r.refs.length rc, .int .i64 r.gen, .int .i64 r.phase, .slice oa r.pend.objects.length oc, .slice ua r.pend.updates.length uc, .bool r.pend.force] 28 (0, 0)) ∧
  AH (fun _ => True) w r (.slice sa r.store.length sc) (.slice ra r.refs.length rc) (.slice oa r.pend.objects.length oc) (.slice ua r.pend.updates.length uc)
theorem Ve.below {D : Nat} {w w' : World} {r : An} (h : Ve D w r) (hb : Below w.heap.size w w') : Ve D w' r := by
 obtain ⟨sa, sc, ra, rc, oa, oc, ua, uc, h1, h2⟩ := h
 exact ⟨sa, sc, ra, rc, oa, oc, ua, uc, (hb.block _ (lt_of_block h1)).trans h1, h2.below hb⟩
def Yq (D : Nat) (w : World) (l : List An) : Prop := ∃ a c, w.heap[D]? = some (.cells #[.slice a l.length c] 66 (0, 0)) ∧ AJ (fun _ => True) w (.slice a l.length c) l
theorem Yq.below {D : Nat} {w w' : World} {l : List An} (h : Yq D w l) (hb : Below w.heap.size w w') : Yq D w' l := by
 obtain ⟨a, c, h1, h2⟩ := h
 exact ⟨a, c, (hb.block _ (lt_of_block h1)).trans h1, h2.below hb⟩
theorem XH (w0 : World) : ∃ Q : World → Prop, Vm w0 Q ∧ In Q w0 ∧ ∀ x y (T : Nat → Prop), In Q x → Av T x y → (∀ b, T b → w0.heap.size ≤ b) → In Q y :=
 ⟨_, IV w0 w0 w0.heap.size (Nat.le_refl _) (Nat.le_refl _) (Below.refl _ _), Below.refl _ _, fun x y T hx hu hT => Below.trans (hx : Below _ _ _) (hu.below (Below.size (hx : Below _ _ _)) hT)⟩
def Ib (P : Nat → Prop) (D : Nat) (w : World) (r : An) : Prop :=
 ∃ sa sc ra rc oa oc ua uc, w.heap[D]? = some (.cells #[.slice sa r.store.length sc, .slice ra r.refs.length rc, .int .i64 r.gen, .int .i64 r.phase, .slice oa r.pend.objects.length oc, .slice ua r.pend.updates.length uc, .bool r.pend.force] 28 (0, 0)) ∧
  AH P w r (.slice sa r.store.length sc) (.slice ra r.refs.length rc) (.slice oa r.pend.objects.length oc) (.slice ua r.pend.updates.length uc)
theorem Ib.below {P : Nat → Prop} {D : Nat} {w w' : World} {r : An} (h : Ib P D w r) (hb : Below w.heap.size w w') : Ib P D w' r := by
 obtain ⟨sa, sc, ra, rc, oa, oc, ua, uc, h1, h2⟩ := h
 exact ⟨sa, sc, ra, rc, oa, oc, ua, uc, Ak h1 hb, h2.below hb⟩
theorem Ib.upd {P T : Nat → Prop} {D : Nat} {w w' : World} {r : An} (h : Ib P D w r) (hu : Av T w w') (hD : ¬ T D) (hP : ∀ b, P b → ¬ T b) : Ib P D w' r := by
 obtain ⟨sa, sc, ra, rc, oa, oc, ua, uc, h1, h2⟩ := h
 exact ⟨sa, sc, ra, rc, oa, oc, ua, uc, hu.blk h1 hD, AH.upd h2 hu hP⟩
theorem Ib.any {P : Nat → Prop} {D : Nat} {w : World} {r : An} (h : Ib P D w r) : Ve D w r := by
 obtain ⟨sa, sc, ra, rc, oa, oc, ua, uc, h1, h2⟩ := h
 exact ⟨sa, sc, ra, rc, oa, oc, ua, uc, h1, h2.weaken fun _ _ => trivial⟩
theorem Ib.zero (P : Nat → Prop) {D : Nat} {w : World} (h : w.heap[D]? = some (.cells #[.slice none 0 0, .slice none 0 0, .int .i64 0, .int .i64 0, .slice none 0 0, .slice none 0 0, .bool false] 28 (0, 0))) : Ib P D w Ds :=
 ⟨none, 0, none, 0, none, 0, none, 0, h, El _ _⟩
theorem Ib.weaken {P P' : Nat → Prop} {D : Nat} {w : World} {r : An} (h : Ib P D w r) (hP : ∀ b, P b → P' b) : Ib P' D w r := by
 obtain ⟨sa, sc, ra, rc, oa, oc, ua, uc, h1, h2⟩ := h
 exact ⟨sa, sc, ra, rc, oa, oc, ua, uc, h1, h2.weaken hP⟩
theorem Ib.lt {P : Nat → Prop} {D : Nat} {w : World} {r : An} (h : Ib P D w r) : Ib (fun b => P b ∧ b < w.heap.size) D w r := by
 obtain ⟨sa, sc, ra, rc, oa, oc, ua, uc, h1, h2⟩ := h
 exact ⟨sa, sc, ra, rc, oa, oc, ua, uc, h1, AH.lt h2⟩
theorem Ib.dlt {P : Nat → Prop} {D : Nat} {w : World} {r : An} (h : Ib P D w r) : D < w.heap.size := let ⟨_, _, _, _, _, _, _, _, h1, _⟩ := h; lt_of_block h1
def PR (P : Nat → Prop) (w : World) : List (Nat × An) → Prop
 | [] => True
 | x :: l => Ib P x.1 w x.2 ∧ PR P w l
theorem PR.below {P : Nat → Prop} {w w' : World} : ∀ {l : List (Nat × An)}, PR P w l → Below w.heap.size w w' → PR P w' l
 | [], _, _ => trivial
 | _ :: _, ⟨h, hs⟩, hb => ⟨h.below hb, PR.below hs hb⟩
theorem PR.weaken {P P' : Nat → Prop} {w : World} : ∀ {l : List (Nat × An)}, PR P w l → (∀ b, P b → P' b) → PR P' w l
 | [], _, _ => trivial
 | _ :: _, ⟨h, hs⟩, hp => ⟨h.weaken hp, PR.weaken hs hp⟩
theorem PR.lt {P : Nat → Prop} {w : World} : ∀ {l : List (Nat × An)}, PR P w l → PR (fun b => P b ∧ b < w.heap.size) w l
 | [], _ => trivial
 | _ :: _, ⟨h, hs⟩ => ⟨h.lt, PR.lt hs⟩
theorem PR.upd {P T : Nat → Prop} {w w' : World} : ∀ {l : List (Nat × An)}, PR P w l → Av T w w' → (∀ x ∈ l, ¬ T x.1) → (∀ b, P b → ¬ T b) → PR P w' l
 | [], _, _, _, _ => trivial
 | x :: _, ⟨h, hs⟩, hu, hT, hP => ⟨h.upd hu (hT x List.mem_cons_self) hP, PR.upd hs hu (fun y hy => hT y (List.mem_cons_of_mem _ hy)) hP⟩
def LX (P : Nat → Prop) (D : Nat) (w : World) (p : BJ) : Prop :=
 ∃ oa oc ua uc, w.heap[D]? = some (.cells #[.slice oa p.objects.length oc, .slice ua p.updates.length uc, .bool p.force] 26 (0, 0)) ∧ Ah P w (.slice oa p.objects.length oc) p.objects ∧ AM P w (.slice ua p.updates.length uc) p.updates
theorem LX.below {P : Nat → Prop} {D : Nat} {w w' : World} {p : BJ} (h : LX P D w p) (hb : Below w.heap.size w w') : LX P D w' p := by
 obtain ⟨oa, oc, ua, uc, h1, h2, h3⟩ := h
 exact ⟨oa, oc, ua, uc, Ak h1 hb, h2.below hb, h3.below hb⟩
theorem LX.upd {P T : Nat → Prop} {D : Nat} {w w' : World} {p : BJ} (h : LX P D w p) (hu : Av T w w') (hD : ¬ T D) (hP : ∀ b, P b → ¬ T b) : LX P D w' p := by
 obtain ⟨oa, oc, ua, uc, h1, h2, h3⟩ := h
 exact ⟨oa, oc, ua, uc, hu.blk h1 hD, h2.upd' hu hP, h3.upd hu hP⟩
theorem LX.weaken {P P' : Nat → Prop} {D : Nat} {w : World} {p : BJ} (h : LX P D w p) (hP : ∀ b, P b → P' b) : LX P' D w p := by
 obtain ⟨oa, oc, ua, uc, h1, h2, h3⟩ := h
 exact ⟨oa, oc, ua, uc, h1, h2.weaken hP, h3.weaken hP⟩
theorem LX.lt {P : Nat → Prop} {D : Nat} {w : World} {p : BJ} (h : LX P D w p) : LX (fun b => P b ∧ b < w.heap.size) D w p := by
 obtain ⟨oa, oc, ua, uc, h1, h2, h3⟩ := h
 exact ⟨oa, oc, ua, uc, h1, h2.lt, h3.lt⟩
def Fi (l : List An) (i : Nat) : Bool := (l.take i).any fun x => Ik x (Af l i)
def JF (l : List An) (i : Nat) : Int := if Fi l i = true then 4 else 0
def CJ (l : List An) : Int :=
 if l.length ≠ 3 then 1 else if Ap (fun i => Al (Af l i)) 3 ≠ 0 then Ap (fun i => Al (Af l i)) 3 else if Ap (JF l) 3 ≠ 0 then 4 else if 2 * (many l : Int) ≤ 3 then 4 else 0
theorem MZ {l : List An} (hl : l.length = 3) {k : Nat} {e : Int} (h0 : Ap (fun i => Al (Af l i)) k = 0) (hk : k < 3) (he : Al (Af l k) = e) (hne : e ≠ 0) : CJ l = e := by
 have h := BZ (f := fun i => Al (Af l i)) h0 (by show Al (Af l k) ≠ 0; rw [he]; exact hne) hk
 unfold CJ
 rw [if_neg (by omega), if_pos (by rw [h]; show Al (Af l k) ≠ 0; rw [he]; exact hne), h]; exact he
theorem PX {l : List An} (hl : l.length = 3) {k : Nat} (h0 : Ap (fun i => Al (Af l i)) 3 = 0) (h1 : Ap (JF l) k = 0) (hk : k < 3) (hb : Fi l k = true) : CJ l = 4 := by
 have e : JF l k = 4 := by unfold JF; rw [if_pos hb]
 have h := BZ (f := JF l) h1 (by rw [e]; decide) hk
 unfold CJ
 rw [if_neg (by omega), if_neg (by simpa using h0), if_pos (by rw [h, e]; decide)]
theorem NG {l : List An} (hl : l.length = 3) (h0 : Ap (fun i => Al (Af l i)) 3 = 0) (h1 : Ap (JF l) 3 = 0) : CJ l = if 2 * (many l : Int) ≤ 3 then 4 else 0 := by
 unfold CJ
 rw [if_neg (by omega), if_neg (by simpa using h0), if_neg (by simpa using h1)]
theorem UD {l : List An} (h : CJ l = 0) : l.length = 3 ∧ (∀ i, i < 3 → Al (Af l i) = 0) ∧ (∀ i, i < 3 → Fi l i = false) ∧ 3 < 2 * (many l : Int) := by
 unfold CJ at h
 split at h
 ·cases h
 ·rename_i h3
  split at h
  ·rename_i h4; exact absurd h h4
  ·rename_i h4
   split at h
   ·cases h
   ·rename_i h5
    split at h
    ·cases h
    ·rename_i h6
     refine ⟨by omega, fun i hi => Bh (f := fun i => Al (Af l i)) (by simpa using h4) i hi, fun i hi => ?_, by omega⟩
     have := Bh (f := JF l) (by simpa using h5) i hi
     unfold JF at this
     cases hb : Fi l i
     ·rfl
     ·rw [hb] at this; cases this
theorem OY {l : List An} (hl : l.length ≠ 3) : CJ l = 1 := by unfold CJ; rw [if_pos hl]
theorem PW {l : List An} {k : Nat} (h : Ap (JF l) k = 0) (hb : Fi l k = false) : Ap (JF l) (k + 1) = 0 := AB h (by unfold JF; rw [hb]; rfl)
def NQ (l : List An) (g : Int) : Nat → Nat
 | 0 => 0
 | k + 1 => NQ l g k + if (Af l k).gen = g then 1 else 0
theorem Rq {l : List An} {g : Int} : ∀ {k : Nat}, (∀ i, i < k → (Af l i).gen ≠ g) → NQ l g k = 0
 | 0, _ => rfl
 | k + 1, h => by unfold NQ; rw [Rq (fun i hi => h i (by omega)), if_neg (h k (by omega))]
theorem RL (l : List An) (g : Int) : ∀ k, NQ l g k ≤ k
 | 0 => Nat.le_refl _
 | k + 1 => by have := RL l g k; unfold NQ; split <;> omega
theorem IT (l : List An) : ∀ k, (∀ i, i < k → (Af l i).gen ≤ (Af l (AP l k).1).gen) ∧ (AP l k).2 = NQ l (Af l (AP l k).1).gen k
 | 0 => ⟨fun i hi => absurd hi (by omega), rfl⟩
 | k + 1 => by
  obtain ⟨h1, h2⟩ := IT l k
  unfold AP
  by_cases hg : k = 0 ∨ (Af l (AP l k).1).gen < (Af l k).gen
  ·rw [if_pos hg]
   have hlt : ∀ i, i < k → (Af l i).gen < (Af l k).gen := fun i hi => by
    rcases hg with h | h
    ·omega
    ·exact Int.lt_of_le_of_lt (h1 i hi) h
   refine ⟨fun i hi => ?_, ?_⟩
   ·by_cases e : i = k
    ·subst e; exact Int.le_refl _
    ·exact Int.le_of_lt (hlt i (by omega))
   ·show 1 = NQ l (Af l k).gen (k + 1)
    unfold NQ
    rw [Rq (fun i hi => by have := hlt i hi; omega), if_pos rfl]
  ·rw [if_neg hg]
   have hle : (Af l k).gen ≤ (Af l (AP l k).1).gen := by
    rcases Int.lt_or_le (Af l (AP l k).1).gen (Af l k).gen with h | h
    ·exact absurd (.inr h) hg
    ·exact h
   by_cases he : (Af l k).gen = (Af l (AP l k).1).gen
   ·rw [if_pos he]
    refine ⟨fun i hi => ?_, ?_⟩
    ·by_cases e : i = k
     ·subst e; exact hle
     ·exact h1 i (by omega)
    ·show (AP l k).2 + 1 = NQ l (Af l (AP l k).1).gen (k + 1)
     unfold NQ; rw [if_pos he, ← h2]
   ·rw [if_neg he]
    refine ⟨fun i hi => ?_, ?_⟩
    ·by_cases e : i = k
     ·subst e; exact hle
     ·exact h1 i (by omega)
    ·show (AP l k).2 = NQ l (Af l (AP l k).1).gen (k + 1)
     unfold NQ; rw [if_neg he, ← h2, Nat.add_zero]
theorem Nm (l : List An) : many l = NQ l (Af l (Co l)).gen l.length := (IT l l.length).2
theorem GL {l : List An} (h : 0 < l.length) : Co l < l.length := by have := La l l.length; unfold Co; omega
theorem OK (x y : An) : Ik x y = Ik y x := by
 unfold Ik
 have e1 : (x.gen == y.gen) = (y.gen == x.gen) := by rw [Bool.eq_iff_iff, beq_iff_eq, beq_iff_eq]; exact eq_comm
 have e2 : Bu x.refs y.refs = Bu y.refs x.refs := by rw [Bool.eq_iff_iff, Ep, Ep]; exact eq_comm
 rw [e1, e2]
theorem QO {l : List An} {i j : Nat} (h : j < i) : Af (l.take i) j = Af l j := by
 unfold Af at_; simp only [List.getD_eq_getElem?_getD, List.getElem?_take, if_pos h]
theorem WL {l : List An} {i k : Nat} (hi : i ≤ l.length) (hk : k < i) (h : Ik (Af l i) (Af l k) = true) : Fi l i = true := by
 unfold Fi
 rw [List.any_eq_true]
 have hl : k < (l.take i).length := by rw [List.length_take]; omega
 exact ⟨Af l k, by rw [← QO hk, Er hl]; exact List.getElem_mem hl, by rw [OK]; exact h⟩
theorem Ts {l : List An} {i : Nat} (hi : i ≤ l.length) (h : ∀ k, k < i → Ik (Af l i) (Af l k) = false) : Fi l i = false := by
 unfold Fi
 rw [List.any_eq_false]
 intro x hx
 obtain ⟨k, hk, rfl⟩ := List.getElem_of_mem hx
 have hk' : k < i := by rw [List.length_take] at hk; omega
 rw [← Er hk, QO hk', OK, h k hk']; simp
theorem KL (l : List An) (v : Value) (S : Nat → Prop) (w : World) (h : AJ S w v l) :
  Calls Tryz.prog 99 #[.agg #[v]] w fun e w' => e = .returned (.int .i64 (CJ l)) ∧ Below w.heap.size w w' := by
 have h' := h
 obtain ⟨a, n, cap, fr, HN, rfl, h1, h2, h3, h4, h5⟩ := h.open
 obtain ⟨R, hR, hR1, HB0⟩ := AI w [.cells #[.slice a n cap] 66]
 simp only [List.foldl] at hR1
 have hRb := hR.below
 have hRn := hR.next
 have c0 := fun x (hx : In R x) => Aa (j := 0) (HB0 x hx 0 _ rfl) rfl
 simp only [Nat.add_zero] at c0
 clear HB0
 have cc := c0 _ hR1
 by_cases hn3 : n = 3
 case neg =>
  have HE := zh (OY (l := l) (by rw [← HN.out]; exact hn3))
  have hq : ((n : Int) != 3) = true := by simpa using (show (n : Int) ≠ 3 by omega)
  clear hn3 h h'
  go_enter Tryz.func99, Tryz.ntmps99
  go_wp2_with fail
  go_ret
  exact ⟨Ae HE.out.symm, hRb _ hR1⟩
 subst hn3
 have hl3 : l.length = 3 := HN.out.symm
 have HA := zh (fun k e h0 (hk : k < 3) he hne => MZ (l := l) (k := k) (e := e) hl3 h0 hk he hne)
 have HB := zh (fun k h0 h1 (hk : k < 3) hb => PX (l := l) (k := k) hl3 h0 h1 hk hb)
 have HF := zh (fun h0 h1 => NG (l := l) hl3 h0 h1)
 have H := zh h'
 have Hl3 := zh hl3
 clear h h' hl3
 go_enter Tryz.func99, Tryz.ntmps99
 go_wp2_with fail
 clear cc
 go_loopw [17] (fun i wr => ∃ k : Nat, k ≤ 3 ∧ i = .int .i64 k ∧ Hid (Ap (fun i => Al (Af l i)) k = 0) ∧ In R wr) (fun i _ => 3 - (intOf i).toNat)
 case atStart => exact ⟨0, by omega, rfl, rfl, hR1⟩
 obtain ⟨k, hk, rfl, Hs, hRw⟩ := hrel
 clear hR1
 by_cases hlt : k < 3
 ·obtain ⟨b, off, rfl, hb, k0, k1, k2, k3, k4, k5, k6⟩ := h4 (by omega)
  have x0 := k0 k wr hlt (hRb _ hRw)
  have x1 := k1 k wr hlt (hRb _ hRw)
  have x2 := k2 k wr hlt (hRb _ hRw)
  have x3 := k3 k wr hlt (hRb _ hRw)
  have x4 := k4 k wr hlt (hRb _ hRw)
  have x5 := k5 k wr hlt (hRb _ hRw)
  have x6 := k6 k wr hlt (hRb _ hRw)
  obtain ⟨Q, hQ, hQ1, hy⟩ := BW wr (c7 (Af l k) (fr k).sa (fr k).sc (fr k).ra (fr k).rc (fr k).oa (fr k).oc (fr k).ua (fr k).uc) 28
  have y0 := hy 0 _ rfl _ hQ1
  have y1 := hy 1 _ rfl _ hQ1
  have y2 := hy 2 _ rfl _ hQ1
  have y3 := hy 3 _ rfl _ hQ1
  have y4 := hy 4 _ rfl _ hQ1
  have y5 := hy 5 _ rfl _ hQ1
  have y6 := hy 6 _ rfl _ hQ1
  have hR2 := hRn _ _ hRw (hQ.below _ hQ1)
  have hi1 : (0 : Int) ≤ (k : Int) := by omega
  have hi2 : (k : Int) < (3 : Int) := by omega
  have HC := zh (KG (Af l k) _ _ _ _ _ _ ((h5 k hlt).below (hRb _ hR2)))
  simp only [Bf] at HC
  clear hy hQ1 hQ h4 h5 k0 k1 k2 k3 k4 k5 k6
  by_cases hz : Al (Af l k) = 0
  ·have Hz := zh hz
   rw [hz] at HC
   clear hz
   go_wp2_with fail
   refine HC.out.mono ?_
   rintro e w1 ⟨rfl, hb1⟩
   have hR3 := hRn _ _ hR2 hb1
   go_wp2_with fail
   go_roundw
   case rel => exact ⟨k + 1, by omega, by go_num, AB Hs.out Hz.out, hR3⟩
   case measure => simp [intOf]; omega
  ·have HE := zh (HA.out k _ Hs.out hlt rfl hz)
   have hq : (Al (Af l k) != 0) = true := by simpa using hz
   clear hz
   generalize Al (Af l k) = c at *
   go_wp2_with fail
   refine HC.out.mono ?_
   rintro e w1 ⟨rfl, hb1⟩
   have hR3 := hRn _ _ hR2 hb1
   go_wp2_with fail
   go_ret
   exact ⟨Ae HE.out.symm, hRb _ hR3⟩
 ·obtain rfl : k = 3 := by omega
  have cc := c0 _ hRw
  rw [show ((3 : Nat) : Int) = 3 from rfl]
  go_wp2_with fail
  clear cc
  go_loopw [30] (fun i wx => ∃ k : Nat, k ≤ 3 ∧ i = .int .i64 k ∧ Hid (Ap (JF l) k = 0) ∧ In R wx) (fun i _ => 3 - (intOf i).toNat)
  case atStart => exact ⟨0, by omega, rfl, rfl, hRw⟩
  obtain ⟨k, hk2, rfl, Ht, hRx⟩ := hrel
  clear hRw
  by_cases hlt : k < 3
  ·have h5k := h5 k hlt
   obtain ⟨b, off, rfl, hb, k0, k1, k2, k3, k4, k5, k6⟩ := h4 (by omega)
   have x0 := k0 k wr hlt (hRb _ hRx)
   have x1 := k1 k wr hlt (hRb _ hRx)
   have x2 := k2 k wr hlt (hRb _ hRx)
   have x3 := k3 k wr hlt (hRb _ hRx)
   have x4 := k4 k wr hlt (hRb _ hRx)
   have x5 := k5 k wr hlt (hRb _ hRx)
   have x6 := k6 k wr hlt (hRb _ hRx)
   obtain ⟨Q, hQ, hQ1, hy⟩ := BW wr (c7 (Af l k) (fr k).sa (fr k).sc (fr k).ra (fr k).rc (fr k).oa (fr k).oc (fr k).ua (fr k).uc) 28
   have hQb := hQ.below
   have hQR : ∀ x, In Q x → In R x := fun x hx => hRn _ _ hRx (hQb x hx)
   have Hy1 := zh (hy 1 _ rfl)
   have Hy2 := zh (hy 2 _ rfl)
   have hR2 := hQR _ hQ1
   have hi1 : (0 : Int) ≤ (k : Int) := by omega
   have hi2 : (k : Int) < (3 : Int) := by omega
   have hi3 : (k : Int) ≤ (cap : Int) := by omega
   have c1 := c0 _ hR2
   have HAp := zh (show Vg 159 (.pointer (some ⟨wr.heap.size, 0, none⟩)) (fun x => Ik x (Af l k)) (wr.alloc (.cells (c7 (Af l k) (fr k).sa (fr k).sc (fr k).ra (fr k).rc (fr k).oa (fr k).oc (fr k).ua (fr k).uc) 28)) (l.take k) from
    fun x i S2 sv rv ov uv hi hx hr => Ob _ (Af l k) sv rv ov uv _ _ x hr wr.heap.size _ (h5k.refs.below (hRb _ (hQR _ (hQ.next _ _ hQ1 hx)))) (Hy2.out x (hQ.next _ _ hQ1 hx)) (Hy1.out x (hQ.next _ _ hQ1 hx)))
   have HCf := zh (Kp (l.take k) _ _ S _ _ _ ((H.out.take (i := k) (by have := Hl3.out; omega)).below (hRb _ hR2)) (fun _ _ => rfl) HAp.out)
   have HCf : Hid (Calls _ _ _ _ fun e w' => e = .returned (.bool (Fi l k)) ∧ Below _ _ w') := HCf
   clear hy hQ1 hQ h4 h5 k0 k1 k2 k3 k4 k5 k6 HAp Hy1 Hy2 h5k hQb hQR
   cases hb : Fi l k
   ·have Hn := zh (PW Ht.out hb)
    rw [hb] at HCf
    go_wp2_with fail
    refine HCf.out.mono ?_
    rintro e w1 ⟨rfl, hb1⟩
    have hR3 := hRn _ _ hR2 hb1
    go_wp2_with fail
    go_roundw
    case rel => exact ⟨k + 1, by omega, by go_num, Hn.out, hR3⟩
    case measure => simp [intOf]; omega
   ·have HE := zh (HB.out k Hs.out Ht.out hlt hb)
    rw [hb] at HCf
    go_wp2_with fail
    refine HCf.out.mono ?_
    rintro e w1 ⟨rfl, hb1⟩
    have hR3 := hRn _ _ hR2 hb1
    go_wp2_with fail
    go_ret
    exact ⟨Ae HE.out.symm, hRb _ hR3⟩
  ·obtain rfl : k = 3 := by omega
   have cc := c0 _ hRx
   have HBe := zh (MV l _ _ _ (H.out.below (hRb _ hRx)))
   have HE := zh (HF.out Hs.out Ht.out)
   have hmm := IA l l.length
   have Hml := zh (show many l ≤ 3 by have := Hl3.out; unfold many; omega)
   clear hmm HB HA HF
   generalize many l = m at *
   have hml := Hml.out
   have hw1 := Bb (n := 2 * (m : Int)) (by omega)
   by_cases hm : 2 * (m : Int) ≤ 3
   ·rw [if_pos hm] at HE
    have hd : decide (2 * (m : Int) ≤ 3) = true := decide_eq_true hm
    clear hm
    go_wp2_with fail
    refine HBe.out.mono ?_
    rintro e w1 ⟨rfl, hb1⟩
    have hR3 := hRn _ _ hRx hb1
    go_wp2_with fail
    go_ret
    exact ⟨Ae HE.out.symm, hRb _ hR3⟩
   ·rw [if_neg hm] at HE
    have hd : decide (2 * (m : Int) ≤ 3) = false := decide_eq_false hm
    clear hm
    go_wp2_with fail
    refine HBe.out.mono ?_
    rintro e w1 ⟨rfl, hb1⟩
    have hR3 := hRn _ _ hRx hb1
    go_wp2_with fail
    go_ret
    exact ⟨Ae HE.out.symm, hRb _ hR3⟩
def Yr (l : List An) : Int := if CJ l = 0 then (Co l : Int) else 0
theorem Sp (l : List An) (v : Value) (S : Nat → Prop) (w : World) (h : AJ S w v l) :
  Calls Tryz.prog 48 #[.agg #[v]] w fun e w' => e = .returned (.tuple #[.int .i64 (Yr l), .int .i64 (CJ l)]) ∧ Below w.heap.size w w' := by
 have HN := zh (show Yr l = if CJ l = 0 then (Co l : Int) else 0 from rfl)
 have H := zh h
 obtain ⟨a, cap, rfl⟩ := h.vshape
 obtain ⟨R, hR, hR1, HB0⟩ := AI w [.cells #[.slice a l.length cap] 66]
 simp only [List.foldl] at hR1
 have hRb := hR.below
 have hRn := hR.next
 have c0 := fun x (hx : In R x) => Aa (j := 0) (HB0 x hx 0 _ rfl) rfl
 simp only [Nat.add_zero] at c0
 have cc := c0 _ hR1
 have HC := zh (KL l _ _ _ (H.out.below (hRb _ hR1)))
 have HB := zh (fun x (hx : In R x) => MV l _ _ x (H.out.below (hRb _ hx)))
 clear HB0 h
 by_cases hz : CJ l = 0
 ·rw [if_pos hz] at HN
  rw [hz] at HC ⊢
  clear hz
  go_enter Tryz.func48, Tryz.ntmps48
  go_wp2_with fail
  refine HC.out.mono ?_
  rintro e w1 ⟨rfl, hb1⟩
  have hR2 := hRn _ _ hR1 hb1
  have c1 := c0 _ hR2
  go_wp2_with fail
  refine (HB.out _ hR2).mono ?_
  rintro e w2 ⟨rfl, hb2⟩
  have hR3 := hRn _ _ hR2 hb2
  go_wp2_with fail
  refine bodyPost_ret (v := .tuple #[.int .i64 (Co l), .int .i64 0]) (by simp [results, Tryz.results48, go_sem] <;> rfl) rfl ?_
  exact ⟨by rw [HN.out], hRb _ hR3⟩
 ·rw [if_neg hz] at HN
  have hq : (CJ l != 0) = true := by simpa using hz
  clear hz
  generalize CJ l = c at *
  go_enter Tryz.func48, Tryz.ntmps48
  go_wp2_with fail
  refine HC.out.mono ?_
  rintro e w1 ⟨rfl, hb1⟩
  have hR2 := hRn _ _ hR1 hb1
  go_wp2_with fail
  refine bodyPost_ret (v := .tuple #[.int .i64 0, .int .i64 c]) (by simp [results, Tryz.results48, go_sem] <;> rfl) rfl ?_
  exact ⟨by rw [HN.out], hRb _ hR2⟩
end Go.Proofs.YtjdgpgfiomnjkaaGreatDoor
