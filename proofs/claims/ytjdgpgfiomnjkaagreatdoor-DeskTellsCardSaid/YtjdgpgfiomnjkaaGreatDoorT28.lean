/- RepB: walks of repair. -/
import Derived.Test.YtjdgpgfiomnjkaaGreatDoorT27
set_option linter.all false
set_option maxHeartbeats 1000000
set_option maxRecDepth 100000
namespace Go.Proofs.YtjdgpgfiomnjkaaGreatDoor
open Go.RowKit
theorem OG (w : World) (cs ds es : Array Value) (t u s : TypeId) : ∃ R : World → Prop, Vm w R ∧ In R (((w.alloc (.cells cs t)).alloc (.cells ds u)).alloc (.cells es s)) ∧
  (∀ x, In R x → x.heap[w.heap.size]? = some (.cells cs t (0, 0)) ∧ x.heap[w.heap.size + 1]? = some (.cells ds u (0, 0)) ∧ x.heap[w.heap.size + 2]? = some (.cells es s (0, 0))) := by
 have hb : Below w.heap.size w (((w.alloc (.cells cs t)).alloc (.cells ds u)).alloc (.cells es s)) := (bal.alloc (by simp) _).alloc (by simp; omega) _
 refine ⟨_, IV w _ (w.heap.size + 3) (by omega) (by simp) hb, Below.refl _ _, fun x hx => ⟨?_, ?_, ?_⟩⟩
 ·rw [Below.block hx _ (by omega), Below.heap_alloc _ _ _ (by simp; omega), Below.heap_alloc _ _ _ (by simp)]; exact heap_alloc_new w _
 ·rw [Below.block hx _ (by omega), Below.heap_alloc _ _ _ (by simp)]; exact KH _ _ _ (by simp)
 ·rw [Below.block hx _ (by omega)]; exact KH _ _ _ (by simp)
def BV (n r : An) : Int := if n.gen < r.gen then 4 else if Ey n.store r.store ≠ 0 then Ey n.store r.store else BY r.store (CC n.store r.store)
def BI (n r : An) : An := if BV n r = 0 then ⟨Ch r.store (CC n.store r.store), n.refs, n.gen, 0, CX⟩ else Ds
def QY (n r : An) : Int := if Al n ≠ 0 then Al n else if Al r ≠ 0 then Al r else BV n r
def QX (n r : An) : An := if QY n r = 0 then BI n r else Ds
theorem QF {l : List Obj} (h : Ag l = 0) : ∀ o ∈ l, ∀ z ∈ o.links, z ≠ 0 := by
 intro o ho z hz
 obtain ⟨k, hk, rfl⟩ := List.getElem_of_mem hz
 obtain ⟨y, hy, _, h2, _⟩ := WY h ho hk
 obtain ⟨i, hi, rfl⟩ := GX hy
 have h3 := (Gx h).each i hi
 rw [DM hk] at h2
 rw [← h2]
 intro e
 unfold Ax at h3
 have hw : within (obj l i).id 1 99 = false := by rw [e]; decide
 simp [hw] at h3
theorem NB {l more : List Obj} (h : BY l more = 0) : ∀ o ∈ Ch l more, ∀ z ∈ o.links, z ≠ 0 := by
 have e : Ch l more = Ar l more more.length := by unfold Ch; rw [if_pos h]
 rw [e]
 refine QF ?_
 unfold BY at h
 by_cases h2 : Ap (BO l more) more.length = 0
 ·rw [if_pos h2] at h; exact h
 ·rw [if_neg h2] at h; exact absurd h h2
theorem QL (n r : An) (sv rv ov uv sv2 rv2 ov2 uv2 : Value) (S S' : Nat → Prop) (w : World) (h : AH S w n sv rv ov uv) (h2 : AH S' w r sv2 rv2 ov2 uv2) (hn : n.store.length ≤ 40) (hr : Ag r.store = 0) :
  Calls Tryz.prog 108 #[Bf n sv rv ov uv, Bf r sv2 rv2 ov2 uv2] w fun e w' => PM (fun b => S b ∨ S' b) w w' e (BI n r) (BV n r) := by
 have HE := zh (show BV n r = if n.gen < r.gen then 4 else if Ey n.store r.store ≠ 0 then Ey n.store r.store else BY r.store (CC n.store r.store) from rfl)
 have HR := zh (show BI n r = if BV n r = 0 then ⟨Ch r.store (CC n.store r.store), n.refs, n.gen, 0, CX⟩ else Ds from rfl)
 have H := zh h
 have G := zh h2
 have hr40 := (BR hr).1
 have hrl : (CC n.store r.store).length ≤ 40 := by unfold CC; split; exact Nat.le_trans (GP _ _) hn; simp
 obtain ⟨sa, sc, rfl⟩ := h.store.vshape
 obtain ⟨⟨ra, rc⟩, rfl⟩ := h.refs.shape
 obtain ⟨oa, oc, rfl⟩ := h.objs.vshape
 obtain ⟨⟨ua, uc⟩, rfl⟩ := h.upds.shape
 obtain ⟨Lu, NX, rfl⟩ := h2.store.vshape
 obtain ⟨⟨ra2, rc2⟩, rfl⟩ := h2.refs.shape
 obtain ⟨oa2, oc2, rfl⟩ := h2.objs.vshape
 obtain ⟨⟨ua2, uc2⟩, rfl⟩ := h2.upds.shape
 clear h h2
 simp only [Bf]
 obtain ⟨Q, hQ, hQ1, HB0⟩ := OG w (c7 n sa sc ra rc oa oc ua uc)
  (c7 r Lu NX ra2 rc2 oa2 oc2 ua2 uc2) Tw 28 28 28
 have hQn := hQ.next
 have HB := zh HB0
 have HD := zh (fun x (hx : In Q x) => UZ n.store r.store _ _ _ _ x (H.out.store.lt.below (hQ.below _ hx)) (G.out.store.below (hQ.below _ hx)) (AR hr) (by omega))
 have HW := zh (fun x (hx : In Q x) mv S3 (hm : Ah S3 x mv (CC n.store r.store)) => Pc r.store (CC n.store r.store) _ mv _ S3 x (G.out.store.lt.below (hQ.below _ hx)) hm (AR hr) (by omega) (by omega))
 have y0 := fun x (hx : In Q x) => Aa (j := 0) (HB0 x hx).1 rfl
 have y1 := fun x (hx : In Q x) => Aa (j := 1) (HB0 x hx).1 rfl
 have y2 := fun x (hx : In Q x) => Aa (j := 2) (HB0 x hx).1 rfl
 have z0 := fun x (hx : In Q x) => Aa (j := 0) (HB0 x hx).2.1 rfl
 have z2 := fun x (hx : In Q x) => Aa (j := 2) (HB0 x hx).2.1 rfl
 have y21 := y2 _ hQ1
 have z21 := z2 _ hQ1
 clear HB0
 have hz7 : (Tw : Array Value) = z7 := rfl
 rw [hz7] at hQ1 HB y21 z21
 clear hz7
 by_cases hg : n.gen < r.gen
 ·have HE2 := zh (show BV n r = 4 by rw [HE.out, if_pos hg])
  have HR2 := zh (show BI n r = Ds by rw [HR.out, HE2.out]; rfl)
  have hd : decide (n.gen < r.gen) = true := decide_eq_true hg
  clear HE HR hg HD HW
  obtain ⟨w3, hw3⟩ : ∃ w3 : World, w3 = ((w.alloc (.cells (c7 n sa sc ra rc oa oc ua uc) 28)).alloc (.cells (c7 r Lu NX ra2 rc2 oa2 oc2 ua2 uc2) 28)).alloc (.cells z7 28) := ⟨_, rfl⟩
  have hQ13 : In Q w3 := by rw [hw3]; exact hQ1
  have Hw3 := zh hw3
  clear hw3
  go_enter Tryz.func108, Tryz.ntmps108
  have hblk := (HB.out _ hQ1).2.2
  have g0 := Aa (j := 0) hblk rfl
  have f0 := Ab (j := 0) hblk
  have g1 := Aa (j := 1) hblk rfl
  have f1 := Ab (j := 1) hblk
  have g2 := Aa (j := 2) hblk rfl
  have f2 := Ab (j := 2) hblk
  have g3 := Aa (j := 3) hblk rfl
  have f3 := Ab (j := 3) hblk
  have g4 := Aa (j := 4) hblk rfl
  have f4 := Ab (j := 4) hblk
  have g5 := Aa (j := 5) hblk rfl
  have f5 := Ab (j := 5) hblk
  have g6 := Aa (j := 6) hblk rfl
  have f6 := Ab (j := 6) hblk
  go_wp2_with fail
  rw [← Hw3.out]
  have k0 := Aa (j := 0) (HB.out _ hQ13).2.2 rfl
  have k1 := Aa (j := 1) (HB.out _ hQ13).2.2 rfl
  have k2 := Aa (j := 2) (HB.out _ hQ13).2.2 rfl
  have k3 := Aa (j := 3) (HB.out _ hQ13).2.2 rfl
  have k4 := Aa (j := 4) (HB.out _ hQ13).2.2 rfl
  have k5 := Aa (j := 5) (HB.out _ hQ13).2.2 rfl
  have k6 := Aa (j := 6) (HB.out _ hQ13).2.2 rfl
  have hB7 := hQ.below _ hQ13
  clear g0 g1 g2 g3 g4 g5 g6 f0 f1 f2 f3 f4 f5 f6 hblk
  refine bodyPost_ret (v := .tuple #[.agg z7, .int .i64 4]) (by simp [results, Tryz.results108, go_sem]; simp [k0, k1, k2, k3, k4, k5, k6] <;> rfl) rfl ?_
  rw [HR2.out, HE2.out]
  exact ⟨_, _, _, _, rfl, El _ _, hB7⟩
 ·rw [if_neg hg] at HE
  have hd : decide (n.gen < r.gen) = false := decide_eq_false hg
  clear hg
  have y01 := y0 _ hQ1
  have z01 := z0 _ hQ1
  by_cases h1 : Ey n.store r.store = 0
  ·rw [if_neg (by simpa using h1)] at HE
   rw [h1] at HD
   clear h1
   by_cases h3 : BY r.store (CC n.store r.store) = 0
   ·have HE2 := zh (show BV n r = 0 by rw [HE.out, h3])
    have HR2 := zh (show BI n r = ⟨Ch r.store (CC n.store r.store), n.refs, n.gen, 0, CX⟩ by rw [HR.out, if_pos HE2.out])
    have HWl := zh (NB h3)
    rw [h3] at HW
    clear h3 HE HR
    go_enter Tryz.func108, Tryz.ntmps108
    go_wp2_with fail
    refine (HD.out _ hQ1).mono ?_
    rintro e w1 ⟨v1, rfl, hv1, hb1⟩
    obtain ⟨a1, c1, rfl⟩ := hv1.vshape
    have hQ2 := hQn _ _ hQ1 hb1
    have Hv1 := zh hv1
    have z02 := z0 _ hQ2
    clear hv1 hb1 y21 z21 y01 z01
    go_wp2_with fail
    refine (HW.out _ hQ2 _ _ Hv1.out).mono ?_
    rintro e w2 ⟨v2, rfl, hv2, hb2⟩
    obtain ⟨a2, c2, rfl⟩ := hv2.vshape
    have hQ3 := hQn _ _ hQ2 hb2
    have Hv2 := zh (hv2.weaken (S' := fun b => ((S b ∨ S' b) ∧ b < w.heap.size) ∨ w.heap.size + 2 < b) (fun b hb => by
     have e1 := lt_of_block (HB.out _ hQ1).2.2
     have e2 := lt_of_block (HB.out _ hQ2).2.2
     rcases hb with (h | h | h) | h
     ·exact .inl ⟨.inr h.1, h.2⟩
     ·exact .inl ⟨.inl h.1, h.2⟩
     ·exact .inr (Nat.lt_of_lt_of_le e1 h)
     ·exact .inr (Nat.lt_of_lt_of_le e2 h)))
    clear hv2 hb2 z02
    have y13 := y1 _ hQ3
    have y23 := y2 _ hQ3
    have hblk := (HB.out _ hQ3).2.2
    have g0 := Aa (j := 0) hblk rfl
    have f0 := Ab (j := 0) hblk
    have g1 := Aa (j := 1) hblk rfl
    have f1 := Ab (j := 1) hblk
    have g2 := Aa (j := 2) hblk rfl
    have f2 := Ab (j := 2) hblk
    have g3 := Aa (j := 3) hblk rfl
    have f3 := Ab (j := 3) hblk
    have g4 := Aa (j := 4) hblk rfl
    have f4 := Ab (j := 4) hblk
    have g5 := Aa (j := 5) hblk rfl
    have f5 := Ab (j := 5) hblk
    have g6 := Aa (j := 6) hblk rfl
    have f6 := Ab (j := 6) hblk
    go_wp2_with fail
    change bodyPost _ _ _ _ _ (Bt (w.heap.size + 2) (.slice a2 (Ch r.store (CC n.store r.store)).length c2) (.slice ra n.refs.length rc) (.int .i64 n.gen) (.int .i64 0) (.slice none 0 0) (.slice none 0 0) (.bool false) w2)
    have hb7 := Bz (v0 := .slice a2 (Ch r.store (CC n.store r.store)).length c2) (v1 := .slice ra n.refs.length rc) (v2 := .int .i64 n.gen) (v3 := .int .i64 0) (v4 := .slice none 0 0) (v5 := .slice none 0 0) (v6 := .bool false) hblk
    have hu7 := AY (w.heap.size + 2) (.slice a2 (Ch r.store (CC n.store r.store)).length c2) (.slice ra n.refs.length rc) (.int .i64 n.gen) (.int .i64 0) (.slice none 0 0) (.slice none 0 0) (.bool false) w2
    generalize Bt (w.heap.size + 2) (.slice a2 (Ch r.store (CC n.store r.store)).length c2) (.slice ra n.refs.length rc) (.int .i64 n.gen) (.int .i64 0) (.slice none 0 0) (.slice none 0 0) (.bool false) w2 = w7 at *
    have k0 := Aa (j := 0) hb7 rfl
    have k1 := Aa (j := 1) hb7 rfl
    have k2 := Aa (j := 2) hb7 rfl
    have k3 := Aa (j := 3) hb7 rfl
    have k4 := Aa (j := 4) hb7 rfl
    have k5 := Aa (j := 5) hb7 rfl
    have k6 := Aa (j := 6) hb7 rfl
    clear g0 g1 g2 g3 g4 g5 g6 f0 f1 f2 f3 f4 f5 f6 hblk hb7
    have hsz := (hQ.below _ hQ3).size
    have hB7 : Below w.heap.size w w7 := (hQ.below _ hQ3).trans (hu7.below (B := w.heap.size) hsz (fun b hb => by omega))
    refine bodyPost_ret (v := .tuple #[.agg #[.slice a2 (Ch r.store (CC n.store r.store)).length c2, .slice ra n.refs.length rc, .int .i64 n.gen, .int .i64 0, .slice none 0 0, .slice none 0 0, .bool false], .int .i64 0]) (by simp [results, Tryz.results108, go_sem]; simp [k0, k1, k2, k3, k4, k5, k6] <;> rfl) rfl ?_
    have hrl2 := (H.out.refs.lt.below (hQ.below _ hQ3)).upd hu7 (fun b hb e => by omega)
    rw [HR2.out, HE2.out]
    exact ⟨_, _, _, _, rfl, ⟨(Hv2.out.upd' hu7 (fun b hb e => by rcases hb with h | h; exact absurd e (by have := h.2; omega); omega)).weaken fun b hb => hb.elim (fun h => .inl h.1) (fun h => .inr (by omega)), hrl2.weaken fun b hb => .inl (.inl hb.1), Ah.nil _ _ _ _ (by omega), AM.nil _ _ _ _ (by omega), H.out.gen, by show DL 0; unfold DL; decide⟩, hB7⟩
   ·have HE2 := zh (show BV n r = BY r.store (CC n.store r.store) from HE.out)
    have HR2 := zh (show BI n r = Ds by rw [HR.out, HE2.out, if_neg h3])
    have hq : (BY r.store (CC n.store r.store) != 0) = true := by simpa using h3
    clear h3 HE HR
    generalize BY r.store (CC n.store r.store) = we at *
    go_enter Tryz.func108, Tryz.ntmps108
    go_wp2_with fail
    refine (HD.out _ hQ1).mono ?_
    rintro e w1 ⟨v1, rfl, hv1, hb1⟩
    obtain ⟨a1, c1, rfl⟩ := hv1.vshape
    have hQ2 := hQn _ _ hQ1 hb1
    have Hv1 := zh hv1
    have z02 := z0 _ hQ2
    clear hv1 hb1 y21 z21 y01 z01
    go_wp2_with fail
    refine (HW.out _ hQ2 _ _ Hv1.out).mono ?_
    rintro e w2 ⟨v2, rfl, hv2, hb2⟩
    obtain ⟨a2, c2, rfl⟩ := hv2.vshape
    have hQ3 := hQn _ _ hQ2 hb2
    clear hv2 hb2 z02
    have hblk := (HB.out _ hQ3).2.2
    have g0 := Aa (j := 0) hblk rfl
    have f0 := Ab (j := 0) hblk
    have g1 := Aa (j := 1) hblk rfl
    have f1 := Ab (j := 1) hblk
    have g2 := Aa (j := 2) hblk rfl
    have f2 := Ab (j := 2) hblk
    have g3 := Aa (j := 3) hblk rfl
    have f3 := Ab (j := 3) hblk
    have g4 := Aa (j := 4) hblk rfl
    have f4 := Ab (j := 4) hblk
    have g5 := Aa (j := 5) hblk rfl
    have f5 := Ab (j := 5) hblk
    have g6 := Aa (j := 6) hblk rfl
    have f6 := Ab (j := 6) hblk
    go_wp2_with fail
    change bodyPost _ _ _ _ _ (Bt (w.heap.size + 2) (.slice none 0 0) (.slice none 0 0) (.int .i64 0) (.int .i64 0) (.slice none 0 0) (.slice none 0 0) (.bool false) w2)
    have hb7 := Bz (v0 := .slice none 0 0) (v1 := .slice none 0 0) (v2 := .int .i64 0) (v3 := .int .i64 0) (v4 := .slice none 0 0) (v5 := .slice none 0 0) (v6 := .bool false) hblk
    have hu7 := AY (w.heap.size + 2) (.slice none 0 0) (.slice none 0 0) (.int .i64 0) (.int .i64 0) (.slice none 0 0) (.slice none 0 0) (.bool false) w2
    generalize Bt (w.heap.size + 2) (.slice none 0 0) (.slice none 0 0) (.int .i64 0) (.int .i64 0) (.slice none 0 0) (.slice none 0 0) (.bool false) w2 = w7 at *
    have k0 := Aa (j := 0) hb7 rfl
    have k1 := Aa (j := 1) hb7 rfl
    have k2 := Aa (j := 2) hb7 rfl
    have k3 := Aa (j := 3) hb7 rfl
    have k4 := Aa (j := 4) hb7 rfl
    have k5 := Aa (j := 5) hb7 rfl
    have k6 := Aa (j := 6) hb7 rfl
    clear g0 g1 g2 g3 g4 g5 g6 f0 f1 f2 f3 f4 f5 f6 hblk hb7
    have hsz := (hQ.below _ hQ3).size
    have hB7 : Below w.heap.size w w7 := (hQ.below _ hQ3).trans (hu7.below (B := w.heap.size) hsz (fun b hb => by omega))
    refine bodyPost_ret (v := .tuple #[.agg z7, .int .i64 we]) (by simp [results, Tryz.results108, go_sem]; simp [k0, k1, k2, k3, k4, k5, k6] <;> rfl) rfl ?_
    rw [HR2.out, HE2.out]
    exact ⟨_, _, _, _, rfl, El _ _, hB7⟩
  ·rw [if_pos h1] at HE
   have HE2 := HE
   have HR2 := zh (show BI n r = Ds by rw [HR.out, HE2.out, if_neg h1])
   have hq : (Ey n.store r.store != 0) = true := by simpa using h1
   clear h1 HE HR HW
   generalize Ey n.store r.store = re at *
   go_enter Tryz.func108, Tryz.ntmps108
   go_wp2_with fail
   refine (HD.out _ hQ1).mono ?_
   rintro e w1 ⟨v1, rfl, hv1, hb1⟩
   obtain ⟨a1, c1, rfl⟩ := hv1.vshape
   have hQ2 := hQn _ _ hQ1 hb1
   have Hv1 := zh hv1
   have z02 := z0 _ hQ2
   clear hv1 hb1 y21 z21 y01 z01
   have hblk := (HB.out _ hQ2).2.2
   have g0 := Aa (j := 0) hblk rfl
   have f0 := Ab (j := 0) hblk
   have g1 := Aa (j := 1) hblk rfl
   have f1 := Ab (j := 1) hblk
   have g2 := Aa (j := 2) hblk rfl
   have f2 := Ab (j := 2) hblk
   have g3 := Aa (j := 3) hblk rfl
   have f3 := Ab (j := 3) hblk
   have g4 := Aa (j := 4) hblk rfl
   have f4 := Ab (j := 4) hblk
   have g5 := Aa (j := 5) hblk rfl
   have f5 := Ab (j := 5) hblk
   have g6 := Aa (j := 6) hblk rfl
   have f6 := Ab (j := 6) hblk
   go_wp2_with fail
   change bodyPost _ _ _ _ _ (Bt (w.heap.size + 2) (.slice none 0 0) (.slice none 0 0) (.int .i64 0) (.int .i64 0) (.slice none 0 0) (.slice none 0 0) (.bool false) w1)
   have hb7 := Bz (v0 := .slice none 0 0) (v1 := .slice none 0 0) (v2 := .int .i64 0) (v3 := .int .i64 0) (v4 := .slice none 0 0) (v5 := .slice none 0 0) (v6 := .bool false) hblk
   have hu7 := AY (w.heap.size + 2) (.slice none 0 0) (.slice none 0 0) (.int .i64 0) (.int .i64 0) (.slice none 0 0) (.slice none 0 0) (.bool false) w1
   generalize Bt (w.heap.size + 2) (.slice none 0 0) (.slice none 0 0) (.int .i64 0) (.int .i64 0) (.slice none 0 0) (.slice none 0 0) (.bool false) w1 = w7 at *
   have k0 := Aa (j := 0) hb7 rfl
   have k1 := Aa (j := 1) hb7 rfl
   have k2 := Aa (j := 2) hb7 rfl
   have k3 := Aa (j := 3) hb7 rfl
   have k4 := Aa (j := 4) hb7 rfl
   have k5 := Aa (j := 5) hb7 rfl
   have k6 := Aa (j := 6) hb7 rfl
   clear g0 g1 g2 g3 g4 g5 g6 f0 f1 f2 f3 f4 f5 f6 hblk hb7
   have hsz := (hQ.below _ hQ2).size
   have hB7 : Below w.heap.size w w7 := (hQ.below _ hQ2).trans (hu7.below (B := w.heap.size) hsz (fun b hb => by omega))
   refine bodyPost_ret (v := .tuple #[.agg z7, .int .i64 re]) (by simp [results, Tryz.results108, go_sem]; simp [k0, k1, k2, k3, k4, k5, k6] <;> rfl) rfl ?_
   rw [HR2.out, HE2.out]
   exact ⟨_, _, _, _, rfl, El _ _, hB7⟩
theorem OC (n r : An) (sv rv ov uv sv2 rv2 ov2 uv2 : Value) (S S' : Nat → Prop) (w : World) (h : AH S w n sv rv ov uv) (h2 : AH S' w r sv2 rv2 ov2 uv2) (hn : n.store.length ≤ 40) (hr : Ag r.store = 0) :
  Calls Tryz.prog 165 #[Bf n sv rv ov uv, Bf r sv2 rv2 ov2 uv2] w fun e w' => FL w w' e (BI n r) (BV n r) := by
 have HE := zh (show BV n r = if n.gen < r.gen then 4 else if Ey n.store r.store ≠ 0 then Ey n.store r.store else BY r.store (CC n.store r.store) from rfl)
 have HR := zh (show BI n r = if BV n r = 0 then ⟨Ch r.store (CC n.store r.store), n.refs, n.gen, 0, CX⟩ else Ds from rfl)
 have H := zh h
 have G := zh h2
 have hr40 := (BR hr).1
 have hrl : (CC n.store r.store).length ≤ 40 := by unfold CC; split; exact Nat.le_trans (GP _ _) hn; simp
 obtain ⟨sa, sc, rfl⟩ := h.store.vshape
 obtain ⟨⟨ra, rc⟩, rfl⟩ := h.refs.shape
 obtain ⟨oa, oc, rfl⟩ := h.objs.vshape
 obtain ⟨⟨ua, uc⟩, rfl⟩ := h.upds.shape
 obtain ⟨Lu, NX, rfl⟩ := h2.store.vshape
 obtain ⟨⟨ra2, rc2⟩, rfl⟩ := h2.refs.shape
 obtain ⟨oa2, oc2, rfl⟩ := h2.objs.vshape
 obtain ⟨⟨ua2, uc2⟩, rfl⟩ := h2.upds.shape
 clear h h2
 simp only [Bf]
 obtain ⟨Q, hQ, hQ1, HB0⟩ := OG w (c7 n sa sc ra rc oa oc ua uc)
  (c7 r Lu NX ra2 rc2 oa2 oc2 ua2 uc2) Tw 28 28 28
 have hQn := hQ.next
 have HB := zh HB0
 have HD := zh (fun x (hx : In Q x) => QP n.store r.store _ _ _ _ x (H.out.store.below (hQ.below _ hx)) (G.out.store.below (hQ.below _ hx)) (AR hr) (by omega))
 have HW := zh (fun x (hx : In Q x) mv S3 (hm : Ah S3 x mv (CC n.store r.store)) => Pa r.store (CC n.store r.store) _ mv _ S3 x (G.out.store.below (hQ.below _ hx)) hm (AR hr) (by omega) (by omega))
 have y0 := fun x (hx : In Q x) => Aa (j := 0) (HB0 x hx).1 rfl
 have y1 := fun x (hx : In Q x) => Aa (j := 1) (HB0 x hx).1 rfl
 have y2 := fun x (hx : In Q x) => Aa (j := 2) (HB0 x hx).1 rfl
 have z0 := fun x (hx : In Q x) => Aa (j := 0) (HB0 x hx).2.1 rfl
 have z2 := fun x (hx : In Q x) => Aa (j := 2) (HB0 x hx).2.1 rfl
 have y21 := y2 _ hQ1
 have z21 := z2 _ hQ1
 clear HB0
 have hz7 : (Tw : Array Value) = z7 := rfl
 rw [hz7] at hQ1 HB y21 z21
 clear hz7
 by_cases hg : n.gen < r.gen
 ·have HE2 := zh (show BV n r = 4 by rw [HE.out, if_pos hg])
  have HR2 := zh (show BI n r = Ds by rw [HR.out, HE2.out]; rfl)
  have hd : decide (n.gen < r.gen) = true := decide_eq_true hg
  clear HE HR hg HD HW
  obtain ⟨w3, hw3⟩ : ∃ w3 : World, w3 = ((w.alloc (.cells (c7 n sa sc ra rc oa oc ua uc) 28)).alloc (.cells (c7 r Lu NX ra2 rc2 oa2 oc2 ua2 uc2) 28)).alloc (.cells z7 28) := ⟨_, rfl⟩
  have hQ13 : In Q w3 := by rw [hw3]; exact hQ1
  have Hw3 := zh hw3
  clear hw3
  go_enter Tryz.func165, Tryz.ntmps165
  have hblk := (HB.out _ hQ1).2.2
  have g0 := Aa (j := 0) hblk rfl
  have f0 := Ab (j := 0) hblk
  have g1 := Aa (j := 1) hblk rfl
  have f1 := Ab (j := 1) hblk
  have g2 := Aa (j := 2) hblk rfl
  have f2 := Ab (j := 2) hblk
  have g3 := Aa (j := 3) hblk rfl
  have f3 := Ab (j := 3) hblk
  have g4 := Aa (j := 4) hblk rfl
  have f4 := Ab (j := 4) hblk
  have g5 := Aa (j := 5) hblk rfl
  have f5 := Ab (j := 5) hblk
  have g6 := Aa (j := 6) hblk rfl
  have f6 := Ab (j := 6) hblk
  go_wp2_with fail
  rw [← Hw3.out]
  have k0 := Aa (j := 0) (HB.out _ hQ13).2.2 rfl
  have k1 := Aa (j := 1) (HB.out _ hQ13).2.2 rfl
  have k2 := Aa (j := 2) (HB.out _ hQ13).2.2 rfl
  have k3 := Aa (j := 3) (HB.out _ hQ13).2.2 rfl
  have k4 := Aa (j := 4) (HB.out _ hQ13).2.2 rfl
  have k5 := Aa (j := 5) (HB.out _ hQ13).2.2 rfl
  have k6 := Aa (j := 6) (HB.out _ hQ13).2.2 rfl
  have hB7 := hQ.below _ hQ13
  clear g0 g1 g2 g3 g4 g5 g6 f0 f1 f2 f3 f4 f5 f6 hblk
  refine bodyPost_ret (v := .tuple #[.agg z7, .int .i64 4]) (by simp [results, Tryz.results165, go_sem]; simp [k0, k1, k2, k3, k4, k5, k6] <;> rfl) rfl ?_
  rw [HR2.out, HE2.out]
  exact ⟨_, _, _, _, rfl, El _ _, hB7⟩
 ·rw [if_neg hg] at HE
  have hd : decide (n.gen < r.gen) = false := decide_eq_false hg
  clear hg
  have y01 := y0 _ hQ1
  have z01 := z0 _ hQ1
  by_cases h1 : Ey n.store r.store = 0
  ·rw [if_neg (by simpa using h1)] at HE
   rw [h1] at HD
   clear h1
   by_cases h3 : BY r.store (CC n.store r.store) = 0
   ·have HE2 := zh (show BV n r = 0 by rw [HE.out, h3])
    have HR2 := zh (show BI n r = ⟨Ch r.store (CC n.store r.store), n.refs, n.gen, 0, CX⟩ by rw [HR.out, if_pos HE2.out])
    have HWl := zh (NB h3)
    rw [h3] at HW
    clear h3 HE HR
    go_enter Tryz.func165, Tryz.ntmps165
    go_wp2_with fail
    refine (HD.out _ hQ1).mono ?_
    rintro e w1 ⟨v1, rfl, hv1, hb1⟩
    obtain ⟨a1, c1, rfl⟩ := hv1.vshape
    have hQ2 := hQn _ _ hQ1 hb1
    have Hv1 := zh hv1
    have z02 := z0 _ hQ2
    clear hv1 hb1 y21 z21 y01 z01
    go_wp2_with fail
    refine (HW.out _ hQ2 _ _ Hv1.out).mono ?_
    rintro e w2 ⟨v2, rfl, hv2, hb2⟩
    obtain ⟨a2, c2, rfl⟩ := hv2.vshape
    have hQ3 := hQn _ _ hQ2 hb2
    have Hv2 := zh (hv2.weaken (S' := fun b => w.heap.size + 2 < b) (fun b hb => by have := lt_of_block (HB.out _ hQ2).2.2; omega))
    clear hv2 hb2 z02
    have HCl := zh (fun x (hx : In Q x) => Ge n.refs _ _ x (H.out.refs.below (hQ.below _ hx)))
    have h24 := H.out.refs.bytes
    clear y0 z0 z2 HD HW
    obtain ⟨wo, rfl⟩ : ∃ wo : World, wo = w2 := ⟨_, rfl⟩
    go_wp2_with fail
    refine wp_region_held (S := fun x : World => x.cell? ⟨w.heap.size, 1, none⟩ = some (.slice ra n.refs.length rc) ∧ x.cell? ⟨w.heap.size, 2, none⟩ = some (.int .i64 n.gen)) (by kernel_rfl) ?_
    change wpAnyH _ _ _ _ _ _ _ _ (World.drew _)
    have hC0 := hQ.drew _ hQ3
    have Hv3 := zh (Hv2.out.below (JG _ _ (Below.refl _ _)))
    generalize wo.drew = x0 at hC0 Hv3 ⊢
    have hS0 := And.intro (y1 _ hC0) (y2 _ hC0)
    refine tk 4 (.pointer (some ⟨w.heap.size, 2, none⟩)) (fun w hSw => ?_) hS0 ?_
    ·go_simp
    simp only [tkS]
    refine tk 5 (.int .i64 n.gen) (fun w hSw => ?_) hS0 ?_
    ·have yy := hSw.2; go_simp
    simp only [tkS]
    refine tk 1 (.pointer (some ⟨w.heap.size, 1, none⟩)) (fun w hSw => ?_) hS0 ?_
    ·go_simp
    simp only [tkS]
    refine tk 2 (.slice ra n.refs.length rc) (fun w hSw => ?_) hS0 ?_
    ·have yy := hSw.1; go_simp
    simp only [tkS]
    refine tk 0 (.slice a2 (Ch r.store (CC n.store r.store)).length c2) (fun w hSw => ?_) hS0 ?_
    ·go_simp
    simp only [tkS]
    refine al1 3 ?_
    refine Or.inl ?_
    go_wp2_with fail
    refine (HCl.out _ hC0).mono ?_
    rintro e x1 ⟨v, rfl, hv, hb⟩
    obtain ⟨a3, c3, rfl⟩ := hv.shape
    have hC2 := hQn _ _ hC0 hb
    have Hv4 := zh (Hv3.out.below hb)
    have Hr4 := zh ((hv.refs h24).weaken (S' := fun b => x0.heap.size ≤ b) fun _ h => h.1)
    have hx0 := (HB.out _ hC0).2.2
    have hlt0 : w.heap.size + 2 < x0.heap.size := lt_of_block hx0
    clear hv hb Hv3 Hv2
    go_simp
    refine al1 6 ?_
    refine Or.inl ?_
    go_simp
    refine al1 7 ?_
    refine Or.inl ?_
    have hblk := (HB.out _ hC2).2.2
    have g0 := Aa (j := 0) hblk rfl
    have f0 := Ab (j := 0) hblk
    have g1 := Aa (j := 1) hblk rfl
    have f1 := Ab (j := 1) hblk
    have g2 := Aa (j := 2) hblk rfl
    have f2 := Ab (j := 2) hblk
    have g3 := Aa (j := 3) hblk rfl
    have f3 := Ab (j := 3) hblk
    have g4 := Aa (j := 4) hblk rfl
    have f4 := Ab (j := 4) hblk
    have g5 := Aa (j := 5) hblk rfl
    have f5 := Ab (j := 5) hblk
    have g6 := Aa (j := 6) hblk rfl
    have f6 := Ab (j := 6) hblk
    have hb7 := Bz (v0 := .slice a2 (Ch r.store (CC n.store r.store)).length c2) (v1 := .slice a3 n.refs.length c3) (v2 := .int .i64 n.gen) (v3 := .int .i64 0) (v4 := .slice none 0 0) (v5 := .slice none 0 0) (v6 := .bool false) hblk
    have hu7 := AY (w.heap.size + 2) (.slice a2 (Ch r.store (CC n.store r.store)).length c2) (.slice a3 n.refs.length c3) (.int .i64 n.gen) (.int .i64 0) (.slice none 0 0) (.slice none 0 0) (.bool false) x1
    have HS7 := zh (And.intro (hu7.cell (y1 _ hC2) (by simp)) (hu7.cell (y2 _ hC2) (by simp)))
    have HS1 := zh (And.intro (y1 _ hC2) (y2 _ hC2))
    have Hb7 := zh hb7
    have Hu7 := zh hu7
    clear hb7 hu7 y1 y2
    go_wp2_with fail
    refine ⟨HS1.out, ?_⟩
    change wpAnyH _ _ _ _ _ _ _ _ (Bt (w.heap.size + 2) (.slice a2 (Ch r.store (CC n.store r.store)).length c2) (.slice a3 n.refs.length c3) (.int .i64 n.gen) (.int .i64 0) (.slice none 0 0) (.slice none 0 0) (.bool false) x1)
    have hb7 := Hb7.out
    have hu7 := Hu7.out
    have hS7 := HS7.out
    clear Hb7 Hu7 HS7
    generalize Bt (w.heap.size + 2) (.slice a2 (Ch r.store (CC n.store r.store)).length c2) (.slice a3 n.refs.length c3) (.int .i64 n.gen) (.int .i64 0) (.slice none 0 0) (.slice none 0 0) (.bool false) x1 = w7 at *
    have k0 := Aa (j := 0) hb7 rfl
    have k1 := Aa (j := 1) hb7 rfl
    have k2 := Aa (j := 2) hb7 rfl
    have k3 := Aa (j := 3) hb7 rfl
    have k4 := Aa (j := 4) hb7 rfl
    have k5 := Aa (j := 5) hb7 rfl
    have k6 := Aa (j := 6) hb7 rfl
    clear g0 g1 g2 g3 g4 g5 g6 f0 f1 f2 f3 f4 f5 f6 hblk hb7
    have hsz := (hQ.below _ hC2).size
    have hB7 : Below w.heap.size w w7 := (hQ.below _ hC2).trans (hu7.below (B := w.heap.size) hsz (fun b hb => by omega))
    refine al1 8 ?_
    refine Or.inl ?_
    go_wp2_with fail
    first | refine ⟨hS7, ?_⟩ | skip
    refine wpAnyH_done (by kernel_rfl) ?_ _
    go_wp2_with fail
    refine bodyPost_ret (v := .tuple #[.agg #[.slice a2 (Ch r.store (CC n.store r.store)).length c2, .slice a3 n.refs.length c3, .int .i64 n.gen, .int .i64 0, .slice none 0 0, .slice none 0 0, .bool false], .int .i64 0]) (by simp [results, Tryz.results165, go_sem]; simp [k0, k1, k2, k3, k4, k5, k6] <;> rfl) rfl ?_
    have hrl2 := Hr4.out.upd hu7 (fun b hb e => by omega)
    rw [HR2.out, HE2.out]
    exact ⟨_, _, _, _, rfl, ⟨(Hv4.out.upd' hu7 (fun b hb e => by omega)).weaken fun b hb => by omega, hrl2.weaken fun b hb => by omega, Ah.nil _ _ _ _ (by omega), AM.nil _ _ _ _ (by omega), H.out.gen, by show DL 0; unfold DL; decide⟩, hB7⟩
   ·have HE2 := zh (show BV n r = BY r.store (CC n.store r.store) from HE.out)
    have HR2 := zh (show BI n r = Ds by rw [HR.out, HE2.out, if_neg h3])
    have hq : (BY r.store (CC n.store r.store) != 0) = true := by simpa using h3
    clear h3 HE HR
    generalize BY r.store (CC n.store r.store) = we at *
    go_enter Tryz.func165, Tryz.ntmps165
    go_wp2_with fail
    refine (HD.out _ hQ1).mono ?_
    rintro e w1 ⟨v1, rfl, hv1, hb1⟩
    obtain ⟨a1, c1, rfl⟩ := hv1.vshape
    have hQ2 := hQn _ _ hQ1 hb1
    have Hv1 := zh hv1
    have z02 := z0 _ hQ2
    clear hv1 hb1 y21 z21 y01 z01
    go_wp2_with fail
    refine (HW.out _ hQ2 _ _ Hv1.out).mono ?_
    rintro e w2 ⟨v2, rfl, hv2, hb2⟩
    obtain ⟨a2, c2, rfl⟩ := hv2.vshape
    have hQ3 := hQn _ _ hQ2 hb2
    clear hv2 hb2 z02
    have hblk := (HB.out _ hQ3).2.2
    have g0 := Aa (j := 0) hblk rfl
    have f0 := Ab (j := 0) hblk
    have g1 := Aa (j := 1) hblk rfl
    have f1 := Ab (j := 1) hblk
    have g2 := Aa (j := 2) hblk rfl
    have f2 := Ab (j := 2) hblk
    have g3 := Aa (j := 3) hblk rfl
    have f3 := Ab (j := 3) hblk
    have g4 := Aa (j := 4) hblk rfl
    have f4 := Ab (j := 4) hblk
    have g5 := Aa (j := 5) hblk rfl
    have f5 := Ab (j := 5) hblk
    have g6 := Aa (j := 6) hblk rfl
    have f6 := Ab (j := 6) hblk
    go_wp2_with fail
    change bodyPost _ _ _ _ _ (Bt (w.heap.size + 2) (.slice none 0 0) (.slice none 0 0) (.int .i64 0) (.int .i64 0) (.slice none 0 0) (.slice none 0 0) (.bool false) w2)
    have hb7 := Bz (v0 := .slice none 0 0) (v1 := .slice none 0 0) (v2 := .int .i64 0) (v3 := .int .i64 0) (v4 := .slice none 0 0) (v5 := .slice none 0 0) (v6 := .bool false) hblk
    have hu7 := AY (w.heap.size + 2) (.slice none 0 0) (.slice none 0 0) (.int .i64 0) (.int .i64 0) (.slice none 0 0) (.slice none 0 0) (.bool false) w2
    generalize Bt (w.heap.size + 2) (.slice none 0 0) (.slice none 0 0) (.int .i64 0) (.int .i64 0) (.slice none 0 0) (.slice none 0 0) (.bool false) w2 = w7 at *
    have k0 := Aa (j := 0) hb7 rfl
    have k1 := Aa (j := 1) hb7 rfl
    have k2 := Aa (j := 2) hb7 rfl
    have k3 := Aa (j := 3) hb7 rfl
    have k4 := Aa (j := 4) hb7 rfl
    have k5 := Aa (j := 5) hb7 rfl
    have k6 := Aa (j := 6) hb7 rfl
    clear g0 g1 g2 g3 g4 g5 g6 f0 f1 f2 f3 f4 f5 f6 hblk hb7
    have hsz := (hQ.below _ hQ3).size
    have hB7 : Below w.heap.size w w7 := (hQ.below _ hQ3).trans (hu7.below (B := w.heap.size) hsz (fun b hb => by omega))
    refine bodyPost_ret (v := .tuple #[.agg z7, .int .i64 we]) (by simp [results, Tryz.results165, go_sem]; simp [k0, k1, k2, k3, k4, k5, k6] <;> rfl) rfl ?_
    rw [HR2.out, HE2.out]
    exact ⟨_, _, _, _, rfl, El _ _, hB7⟩
  ·rw [if_pos h1] at HE
   have HE2 := HE
   have HR2 := zh (show BI n r = Ds by rw [HR.out, HE2.out, if_neg h1])
   have hq : (Ey n.store r.store != 0) = true := by simpa using h1
   clear h1 HE HR HW
   generalize Ey n.store r.store = re at *
   go_enter Tryz.func165, Tryz.ntmps165
   go_wp2_with fail
   refine (HD.out _ hQ1).mono ?_
   rintro e w1 ⟨v1, rfl, hv1, hb1⟩
   obtain ⟨a1, c1, rfl⟩ := hv1.vshape
   have hQ2 := hQn _ _ hQ1 hb1
   have Hv1 := zh hv1
   have z02 := z0 _ hQ2
   clear hv1 hb1 y21 z21 y01 z01
   have hblk := (HB.out _ hQ2).2.2
   have g0 := Aa (j := 0) hblk rfl
   have f0 := Ab (j := 0) hblk
   have g1 := Aa (j := 1) hblk rfl
   have f1 := Ab (j := 1) hblk
   have g2 := Aa (j := 2) hblk rfl
   have f2 := Ab (j := 2) hblk
   have g3 := Aa (j := 3) hblk rfl
   have f3 := Ab (j := 3) hblk
   have g4 := Aa (j := 4) hblk rfl
   have f4 := Ab (j := 4) hblk
   have g5 := Aa (j := 5) hblk rfl
   have f5 := Ab (j := 5) hblk
   have g6 := Aa (j := 6) hblk rfl
   have f6 := Ab (j := 6) hblk
   go_wp2_with fail
   change bodyPost _ _ _ _ _ (Bt (w.heap.size + 2) (.slice none 0 0) (.slice none 0 0) (.int .i64 0) (.int .i64 0) (.slice none 0 0) (.slice none 0 0) (.bool false) w1)
   have hb7 := Bz (v0 := .slice none 0 0) (v1 := .slice none 0 0) (v2 := .int .i64 0) (v3 := .int .i64 0) (v4 := .slice none 0 0) (v5 := .slice none 0 0) (v6 := .bool false) hblk
   have hu7 := AY (w.heap.size + 2) (.slice none 0 0) (.slice none 0 0) (.int .i64 0) (.int .i64 0) (.slice none 0 0) (.slice none 0 0) (.bool false) w1
   generalize Bt (w.heap.size + 2) (.slice none 0 0) (.slice none 0 0) (.int .i64 0) (.int .i64 0) (.slice none 0 0) (.slice none 0 0) (.bool false) w1 = w7 at *
   have k0 := Aa (j := 0) hb7 rfl
   have k1 := Aa (j := 1) hb7 rfl
   have k2 := Aa (j := 2) hb7 rfl
   have k3 := Aa (j := 3) hb7 rfl
   have k4 := Aa (j := 4) hb7 rfl
   have k5 := Aa (j := 5) hb7 rfl
   have k6 := Aa (j := 6) hb7 rfl
   clear g0 g1 g2 g3 g4 g5 g6 f0 f1 f2 f3 f4 f5 f6 hblk hb7
   have hsz := (hQ.below _ hQ2).size
   have hB7 : Below w.heap.size w w7 := (hQ.below _ hQ2).trans (hu7.below (B := w.heap.size) hsz (fun b hb => by omega))
   refine bodyPost_ret (v := .tuple #[.agg z7, .int .i64 re]) (by simp [results, Tryz.results165, go_sem]; simp [k0, k1, k2, k3, k4, k5, k6] <;> rfl) rfl ?_
   rw [HR2.out, HE2.out]
   exact ⟨_, _, _, _, rfl, El _ _, hB7⟩
end Go.Proofs.YtjdgpgfiomnjkaaGreatDoor
