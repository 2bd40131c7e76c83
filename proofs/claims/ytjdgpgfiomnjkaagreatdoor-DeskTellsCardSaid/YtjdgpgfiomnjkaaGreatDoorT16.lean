/- Walks: pushes: what they read as. -/
import Derived.Test.YtjdgpgfiomnjkaaGreatDoorT14
import Derived.Test.YtjdgpgfiomnjkaaGreatDoorT15
set_option linter.all false
set_option maxHeartbeats 4000000
set_option maxRecDepth 100000
namespace Go.Proofs.YtjdgpgfiomnjkaaGreatDoor
open Go.RowKit
structure BJ where
 objects : List Obj
 updates : List Mv
 force : Bool
structure An where
 store : List Obj
 refs : List Rf
 gen : Int
 phase : Int
 pend : BJ
@[reducible, simp, go_sem] def c7 (r : An) (sa : Option Addr) (sc : Nat) (ra : Option Addr) (rc : Nat) (oa : Option Addr) (oc : Nat) (ua : Option Addr) (uc : Nat) : Array Value := #[.slice sa r.store.length sc, .slice ra r.refs.length rc, .int .i64 r.gen, .int .i64 r.phase, .slice oa r.pend.objects.length oc, .slice ua r.pend.updates.length uc, .bool r.pend.force]
@[reducible] def q7 (x : World) (b : Nat) (r : An) (sa : Option Addr) (sc : Nat) (ra : Option Addr) (rc : Nat) (oa : Option Addr) (oc : Nat) (ua : Option Addr) (uc : Nat) : Prop := x.cell? ⟨b, 0, none⟩ = some (.slice sa r.store.length sc) ∧ x.cell? ⟨b, 1, none⟩ = some (.slice ra r.refs.length rc) ∧ x.cell? ⟨b, 2, none⟩ = some (.int .i64 r.gen) ∧ x.cell? ⟨b, 3, none⟩ = some (.int .i64 r.phase) ∧ x.cell? ⟨b, 4, none⟩ = some (.slice oa r.pend.objects.length oc) ∧ x.cell? ⟨b, 5, none⟩ = some (.slice ua r.pend.updates.length uc) ∧ x.cell? ⟨b, 6, none⟩ = some (.bool r.pend.force)
@[reducible] def s7 {α : Type} (f : Value → Value → Value → Value → Value → Value → Value → α) (r : An) (sa : Option Addr) (sc : Nat) (ra : Option Addr) (rc : Nat) (oa : Option Addr) (oc : Nat) (ua : Option Addr) (uc : Nat) : α := f (.slice sa r.store.length sc) (.slice ra r.refs.length rc) (.int .i64 r.gen) (.int .i64 r.phase) (.slice oa r.pend.objects.length oc) (.slice ua r.pend.updates.length uc) (.bool r.pend.force)
def CX : BJ := ⟨[], [], false⟩
def Ds : An := ⟨[], [], 0, 0, CX⟩
def As (p : BJ) : Int := if 12 < p.objects.length then 2 else if Ev p.objects ≠ 0 then Ev p.objects else AO p.updates
def Bn (r : An) (p : BJ) : Int := if Dx r.store p.objects ≠ 0 then Dx r.store p.objects else CN r.refs (Cz r.store p.objects) p.updates p.force
def Ff (r : An) (p : BJ) : List Obj := if Bn r p = 0 then Cz r.store p.objects else []
def EG (r : An) (p : BJ) : List Rf := if Bn r p = 0 then Ef r.refs (Cz r.store p.objects) p.updates p.force else []
theorem IZ (w : World) (cs ds : Array Value) (t u : TypeId) : ∃ R : World → Prop, Vm w R ∧ In R ((w.alloc (.cells cs t)).alloc (.cells ds u)) ∧
  (∀ j v, cs[j]? = some v → ∀ x, In R x → x.cell? ⟨w.heap.size, j, none⟩ = some v) ∧ (∀ j v, ds[j]? = some v → ∀ x, In R x → x.cell? ⟨w.heap.size + 1, j, none⟩ = some v) := by
 have hb : Below w.heap.size w ((w.alloc (.cells cs t)).alloc (.cells ds u)) := bal.alloc (by simp) _
 refine ⟨_, IV w _ (w.heap.size + 2) (by omega) (by simp) hb, Below.refl _ _, fun j v hv x hx => ?_, fun j v hv x hx => ?_⟩
 ·rw [Below.cell hx (p := ⟨w.heap.size, j, none⟩) (by simp)]
  rw [World.cell?_alloc_lt _ _ _ (by simp), World.cell?_alloc_at _ _ _ _ rfl]; exact hv
 ·rw [Below.cell hx (p := ⟨w.heap.size + 1, j, none⟩) (by simp)]
  rw [World.cell?_alloc_at _ _ _ _ (by simp)]; exact hv
theorem Dn {p : BJ} (h : As p = 0) : p.objects.length ≤ 12 ∧ Ev p.objects = 0 ∧ AO p.updates = 0 := by
 unfold As at h
 by_cases h1 : 12 < p.objects.length
 ·rw [if_pos h1] at h; exact absurd h (by decide)
 ·rw [if_neg h1] at h
  by_cases h2 : Ev p.objects ≠ 0
  ·rw [if_pos h2] at h; exact absurd h h2
  ·rw [if_neg h2] at h; exact ⟨by omega, by simpa using h2, h⟩
theorem FV (p : BJ) (ov uv : Value) (S S' : Nat → Prop) (w : World) (ho : Ah S w ov p.objects) (hu : AM S' w uv p.updates) :
  Calls Tryz.prog 58 #[.agg #[ov, uv, .bool p.force]] w fun e w' => e = .returned (.int .i64 (As p)) ∧ Below w.heap.size w w' := by
 have HE := zh (fun x (hx : Below w.heap.size w x) => NC (LQ p.objects x) ov S (ho.below hx) (Below.refl _ _))
 have HM := zh (fun x (hx : Below w.heap.size w x) => Pg p.updates _ _ x (hu.below hx))
 have HW := zh (show As p = if 12 < p.objects.length then 2 else if Ev p.objects ≠ 0 then Ev p.objects else AO p.updates from rfl)
 have hee : Ap (fun k => Ax (obj p.objects k)) p.objects.length = Ev p.objects := rfl
 rw [hee] at HE
 obtain ⟨oa, oc, rfl⟩ := ho.vshape
 obtain ⟨⟨ua, uc⟩, rfl⟩ := hu.shape
 obtain ⟨R, hR, hR1, hy⟩ := BW w #[.slice oa p.objects.length oc, .slice ua p.updates.length uc, .bool p.force] 26
 have y0 := hy 0 _ rfl
 have y1 := hy 1 _ rfl
 have hRb := hR.below
 have hRn := hR.next
 have y01 := y0 _ hR1
 clear hy ho hu hee
 generalize Ev p.objects = ee at *
 generalize AO p.updates = mm at *
 by_cases h12 : 12 < p.objects.length
 ·have hd : decide ((12 : Int) < (p.objects.length : Int)) = true := by simp; omega
  rw [HW.out, if_pos h12]
  go_enter Tryz.func58, Tryz.ntmps58
  go_wp2_with fail
  go_ret
  exact ⟨rfl, hRb _ hR1⟩
 ·have hd : decide ((12 : Int) < (p.objects.length : Int)) = false := by simp; omega
  rw [HW.out, if_neg h12]
  have HE2 := zh (HE.out _ (hRb _ hR1))
  clear h12 HW HE
  by_cases he : ee = 0
  ·rw [if_neg (by simp [he])]
   rw [he] at HE2
   clear he
   go_enter Tryz.func58, Tryz.ntmps58
   go_wp2_with fail
   refine HE2.out.mono ?_
   rintro e w2 ⟨rfl, hb2, _⟩
   have hR2 := hRn _ _ hR1 hb2
   have y12 := y1 _ hR2
   clear hb2 hR1 y01
   go_wp2_with fail
   refine (HM.out _ (hRb _ hR2)).mono ?_
   rintro e w3 ⟨rfl, hb3⟩
   have hR3 := hRn _ _ hR2 hb3
   go_wp2_with fail
   go_ret
   exact ⟨rfl, hRb _ hR3⟩
  ·rw [if_pos he]
   have q : (ee != 0) = true := by simpa using he
   clear he
   go_enter Tryz.func58, Tryz.ntmps58
   go_wp2_with fail
   refine HE2.out.mono ?_
   rintro e w2 ⟨rfl, hb2, _⟩
   have hR2 := hRn _ _ hR1 hb2
   clear hb2 hR1 y01
   go_wp2_with fail
   go_ret
   exact ⟨rfl, hRb _ hR2⟩
theorem Jr (p : BJ) (ov uv : Value) (S S' : Nat → Prop) (w : World) (ho : Ah S w ov p.objects) (hu : AM S' w uv p.updates) :
  Calls Tryz.prog 18 #[.agg #[ov, uv, .bool p.force]] w fun e w' => e = .returned (.int .i64 (As p)) ∧ Below w.heap.size w w' := by
 have ho' := ho
 have HM := zh (fun x (hx : Below w.heap.size w x) => Gw p.updates _ _ x (hu.below hx))
 have HW := zh (show As p = if 12 < p.objects.length then 2 else if Ev p.objects ≠ 0 then Ev p.objects else AO p.updates from rfl)
 have HS := zh (show Ev p.objects = Ap (fun k => Ax (obj p.objects k)) p.objects.length from rfl)
 obtain ⟨oa, n, oc, la, ln, lc, HN, rfl, h1, h2, h3, h4, h5⟩ := ho.open
 obtain ⟨⟨ua, uc⟩, rfl⟩ := hu.shape
 obtain ⟨R, hR, hR1, hy⟩ := BW w #[.slice oa n oc, .slice ua p.updates.length uc, .bool p.force] 26
 have y0 := hy 0 _ rfl
 have y1 := hy 1 _ rfl
 have hRb := hR.below
 have hRn := hR.next
 have Hn := zh HN.out.1
 have y01 := y0 _ hR1
 clear hy ho hu
 by_cases h12 : 12 < p.objects.length
 ·have hd : decide ((12 : Int) < (n : Int)) = true := by have := Hn.out; simp; omega
  rw [HW.out, if_pos h12]
  go_enter Tryz.func18, Tryz.ntmps18
  go_wp2_with fail
  go_ret
  exact ⟨rfl, hRb _ hR1⟩
 ·have hd : decide ((12 : Int) < (n : Int)) = false := by have := Hn.out; simp; omega
  have HG := zh (fun (h : Ap (fun k => Ax (obj p.objects k)) n = 0) => show As p = AO p.updates by
   rw [HW.out, if_neg h12, HS.out, ← Hn.out, if_neg (by simp [h])])
  have HB := zh (fun e (h : Ap (fun k => Ax (obj p.objects k)) n = e) (he : e ≠ 0) => show As p = e by
   rw [HW.out, if_neg h12, HS.out, ← Hn.out, h, if_pos he])
  generalize As p = cp at *
  generalize AO p.updates = mm at *
  clear h12 HW HS
  go_enter Tryz.func18, Tryz.ntmps18
  go_wp2_with fail
  go_loopw [3] (fun i wr => ∃ k : Nat, k ≤ n ∧ i = .int .i64 k ∧ Hid (Ap (fun k => Ax (obj p.objects k)) k = 0) ∧ In R wr) (fun i _ => n - (intOf i).toNat)
  case atStart => exact ⟨0, by omega, rfl, rfl, hR1⟩
  obtain ⟨k, hk, rfl, Hs, hRw⟩ := hrel
  clear hR1 y01
  have y0w := y0 _ hRw
  have y1w := y1 _ hRw
  by_cases hlt : k < n
  ·obtain ⟨b, off, rfl, hb, k0, k1, k2, k3⟩ := h4 (by omega)
   have x0 := k0 k wr hlt (hRb _ hRw)
   have x1 := k1 k wr hlt (hRb _ hRw)
   have x2 := k2 k wr hlt (hRb _ hRw)
   have x3 := k3 k wr hlt (hRb _ hRw)
   have Hc := zh (DY (obj p.objects k) _ _ wr ((h5 k hlt).below (hRb _ hRw)))
   have hi1 : (0 : Int) ≤ (k : Int) := by omega
   have hi2 : (k : Int) < (n : Int) := by omega
   clear h4 h5 k0 k1 k2 k3
   by_cases he : Ax (obj p.objects k) = 0
   ·have Hs2 := zh (AB Hs.out he)
    rw [he] at Hc
    clear he
    go_wp2_with fail
    refine Hc.out.mono ?_
    rintro e w2 ⟨rfl, hb2⟩
    have hR2 := hRn _ _ hRw hb2
    clear hb2
    go_wp2_with fail
    go_roundw
    case rel => exact ⟨k + 1, by omega, by go_num, Hs2.out, hR2⟩
    case measure => simp [intOf]; omega
   ·have Hs2 := zh (show Ap (fun k => Ax (obj p.objects k)) n = Ax (obj p.objects k) from BZ Hs.out he hlt)
    have q : (Ax (obj p.objects k) != 0) = true := by simpa using he
    have He := zh (HB.out _ Hs2.out he)
    clear he
    go_wp2_with fail
    refine Hc.out.mono ?_
    rintro e w2 ⟨rfl, hb2⟩
    have hR2 := hRn _ _ hRw hb2
    clear hb2
    go_wp2_with fail
    go_ret
    exact ⟨Ae He.out.symm, hRb _ hR2⟩
  ·obtain rfl : k = n := by omega
   have Hs2 := zh (HG.out Hs.out)
   go_wp2_with fail
   refine (HM.out _ (hRb _ hRw)).mono ?_
   rintro e w3 ⟨rfl, hb3⟩
   have hR3 := hRn _ _ hRw hb3
   go_wp2_with fail
   go_ret
   exact ⟨Ae Hs2.out.symm, hRb _ hR3⟩
def SX (w w' : World) (e : Ending) (l : List Obj) (m : List Rf) (c : Int) : Prop :=
 ∃ v u, e = .returned (.tuple #[v, u, .int .i64 c]) ∧ Ah (fun _ => True) w' v l ∧ AE (fun _ => True) w' u m ∧ Below w.heap.size w w'
def GI (P : Nat → Prop) (w w' : World) (e : Ending) (l : List Obj) (m : List Rf) (c : Int) : Prop :=
 ∃ v u, e = .returned (.tuple #[v, u, .int .i64 c]) ∧ Ah P w' v l ∧ AE P w' u m ∧ Below w.heap.size w w'
theorem GI.e {P : Nat → Prop} {w w' : World} {e : Ending} {l : List Obj} {m : List Rf} {c : Int} (h : GI P w w' e l m c) : SX w w' e l m c :=
 let ⟨v, u, h1, h2, h3, h4⟩ := h; ⟨v, u, h1, h2.weaken fun _ _ => trivial, h3.weaken fun _ _ => trivial, h4⟩
theorem GI.weaken {P P' : Nat → Prop} {w w' : World} {e : Ending} {l : List Obj} {m : List Rf} {c : Int} (h : GI P w w' e l m c) (hP : ∀ b, P b → P' b) : GI P' w w' e l m c :=
 let ⟨v, u, h1, h2, h3, h4⟩ := h; ⟨v, u, h1, h2.weaken hP, h3.weaken hP, h4⟩
theorem XG {r : An} {p : BJ} (hp : AO p.updates = 0) (ha : Dx r.store p.objects = 0) : Bn r p = if AD r.refs (Cz r.store p.objects) ≠ 0 then AD r.refs (Cz r.store p.objects) else Ca r.refs (Cz r.store p.objects) p.updates p.force := by
 have hc := (Vj ha).whole
 have hr : Aq r.refs (Cz r.store p.objects) = AD r.refs (Cz r.store p.objects) := by unfold Aq; rw [if_neg (by simp [hc])]
 unfold Bn CN
 rw [if_neg (by simp [ha]), hr]
 by_cases h : AD r.refs (Cz r.store p.objects) = 0
 ·rw [if_neg (by simp [h]), if_neg (by simp [hp]), if_neg (by simp [h])]
 ·rw [if_pos h, if_pos h]
theorem Kg (r : An) (p : BJ) (sv rv ov uv ov2 uv2 : Value) (S S1 S2 S3 : Nat → Prop) (w : World) (hs : Ah S w sv r.store) (hr : AE S1 w rv r.refs) (ho : Ah S2 w ov p.objects) (hu : AM S3 w uv p.updates) (hp : AO p.updates = 0)
  (h2 : (∃ a n c, ov2 = .slice a n c) ∧ ∃ a n c, uv2 = .slice a n c) :
  Calls Tryz.prog 75 #[.agg #[sv, rv, .int .i64 r.gen, .int .i64 r.phase, ov2, uv2, .bool r.pend.force], .agg #[ov, uv, .bool p.force]] w fun e w' => GI (fun b => w.heap.size ≤ b) w w' e (Ff r p) (EG r p) (Bn r p) := by
 have Ha := zh (fun x (hx : Below w.heap.size w x) => WT r.store p.objects _ _ _ _ x (hs.below hx) (ho.below hx))
 have Hr := zh (fun hR x v (hx : Below w.heap.size w x) (hv : Ah (fun _ => True) x v (Cz r.store p.objects)) => Ld r.refs (Cz r.store p.objects) _ _ _ _ x (hr.below hx) hv hR)
 have Hm := zh (fun hk hR hul x v (hx : Below w.heap.size w x) (hv : Ah (fun _ => True) x v (Cz r.store p.objects)) => SR r.refs (Cz r.store p.objects) p.updates p.force _ _ _ _ _ _ x (hr.below hx) hv (hu.below hx) hk hR hul)
 have HE := zh (show Dx r.store p.objects ≠ 0 → Bn r p = Dx r.store p.objects from fun h => by unfold Bn; rw [if_pos h])
 have HT := zh (XG (r := r) hp)
 have HL := zh (show Ff r p = if Bn r p = 0 then Cz r.store p.objects else [] from rfl)
 have HM := zh (show EG r p = if Bn r p = 0 then Ef r.refs (Cz r.store p.objects) p.updates p.force else [] from rfl)
 have HA := zh (show EB r.refs (Cz r.store p.objects) p.updates p.force = if Ca r.refs (Cz r.store p.objects) p.updates p.force = 0 then AL r.refs p.updates p.updates.length else [] from rfl)
 have HP := zh (show Ef r.refs (Cz r.store p.objects) p.updates p.force = if CN r.refs (Cz r.store p.objects) p.updates p.force = 0 then AL r.refs p.updates p.updates.length else [] from rfl)
 have HTa := zh (show Dx r.store p.objects = 0 → Bn r p = CN r.refs (Cz r.store p.objects) p.updates p.force from fun h => by unfold Bn; rw [if_neg (by simp [h])])
 have h4 := (IH.1 hp).many
 obtain ⟨sa, sc, rfl⟩ := hs.vshape
 obtain ⟨⟨ra, rc⟩, rfl⟩ := hr.shape
 obtain ⟨oa, oc, rfl⟩ := ho.vshape
 obtain ⟨⟨ua, uc⟩, rfl⟩ := hu.shape
 obtain ⟨⟨oa2, on2, oc2, rfl⟩, ⟨ua2, un2, uc2, rfl⟩⟩ := h2
 obtain ⟨R, hR, hR1, hy, hz⟩ := IZ w #[.slice sa r.store.length sc, .slice ra r.refs.length rc, .int .i64 r.gen, .int .i64 r.phase, .slice oa2 on2 oc2, .slice ua2 un2 uc2, .bool r.pend.force] #[.slice oa p.objects.length oc, .slice ua p.updates.length uc, .bool p.force] 28 26
 have y1 := hy 1 _ rfl
 have z1 := hz 1 _ rfl
 have z2 := hz 2 _ rfl
 have hRb := hR.below
 have hRn := hR.next
 clear hy hz hs hr ho hu
 have Ha1 := zh (Ha.out _ (hRb _ hR1))
 by_cases ha : Dx r.store p.objects = 0
 case neg =>
  have HX := zh (HE.out ha)
  have HX1 := zh (show Ff r p = [] by rw [HL.out, HX.out, if_neg ha])
  have HX2 := zh (show EG r p = [] by rw [HM.out, HX.out, if_neg ha])
  have q : (Dx r.store p.objects != 0) = true := by simpa using ha
  rw [HX1.out, HX2.out, HX.out]
  clear ha y1 z1 z2
  go_enter Tryz.func75, Tryz.ntmps75
  go_wp2_with fail
  refine Ha1.out.mono ?_
  rintro e w2 ⟨v2, rfl, hv2, hb2⟩
  obtain ⟨a2, c2, rfl⟩ := hv2.vshape
  have hR2 := hRn _ _ hR1 hb2
  clear hv2 hb2
  go_wp2_with fail
  go_ret3
  exact ⟨_, _, rfl, Ah.nil _ _ _ _ (by omega), AE.nil _ _ _ _ (by omega), hRb _ hR2⟩
 have hc := (Vj ha).whole
 have Hri := zh (Gx hc)
 have HT2 := zh (HT.out ha)
 have HTa2 := zh (HTa.out ha)
 rw [ha] at Ha1
 clear HE HTa HT ha hc
 generalize Cz r.store p.objects = L at *
 by_cases hg : AD r.refs L = 0
 case neg =>
  have HX := zh (show Bn r p = AD r.refs L by rw [HT2.out, if_pos hg])
  have HX1 := zh (show Ff r p = [] by rw [HL.out, HX.out, if_neg hg])
  have HX2 := zh (show EG r p = [] by rw [HM.out, HX.out, if_neg hg])
  have q : (AD r.refs L != 0) = true := by simpa using hg
  rw [HX1.out, HX2.out, HX.out]
  clear hg z1 z2
  go_enter Tryz.func75, Tryz.ntmps75
  go_wp2_with fail
  refine Ha1.out.mono ?_
  rintro e w2 ⟨v2, rfl, hv2, hb2⟩
  obtain ⟨a2, c2, rfl⟩ := hv2.vshape
  have hR2 := hRn _ _ hR1 hb2
  have y12 := y1 _ hR2
  have Hr2 := zh (Hr.out Hri.out.rising _ _ (hRb _ hR2) (hv2.weaken fun _ _ => trivial))
  clear hv2 hb2 hR1
  go_wp2_with fail
  refine Hr2.out.mono ?_
  rintro e w3 ⟨rfl, hb3⟩
  have hR3 := hRn _ _ hR2 hb3
  clear hb3
  go_wp2_with fail
  go_ret3
  exact ⟨_, _, rfl, Ah.nil _ _ _ _ (by omega), AE.nil _ _ _ _ (by omega), hRb _ hR3⟩
 have hok := ES hg
 have HX := zh (show Bn r p = Ca r.refs L p.updates p.force by rw [HT2.out, if_neg (by simp [hg])])
 have HX1 := zh (show Ff r p = if Ca r.refs L p.updates p.force = 0 then L else [] by rw [HL.out, HX.out])
 have HX2 := zh (show EG r p = EB r.refs L p.updates p.force by
  rw [HM.out, HA.out, HP.out, ← HTa2.out, HX.out]; split <;> rfl)
 have Hm2 := zh (Hm.out hok Hri.out (by omega))
 rw [HX1.out, HX2.out, HX.out]
 rw [hg] at Hr
 clear hg hok HT2 HTa2 HX HX1 HX2 HL HM HA HP Hm
 by_cases hm : Ca r.refs L p.updates p.force = 0
 case neg =>
  have q : (Ca r.refs L p.updates p.force != 0) = true := by simpa using hm
  have Hnm := zh (show EB r.refs L p.updates p.force = [] by unfold EB; rw [if_neg hm])
  rw [if_neg hm]
  rw [Hnm.out] at Hm2 ⊢
  clear hm
  go_enter Tryz.func75, Tryz.ntmps75
  go_wp2_with fail
  refine Ha1.out.mono ?_
  rintro e w2 ⟨v2, rfl, hv2, hb2⟩
  obtain ⟨a2, c2, rfl⟩ := hv2.vshape
  have hR2 := hRn _ _ hR1 hb2
  have y12 := y1 _ hR2
  have Hr2 := zh (Hr.out Hri.out.rising _ _ (hRb _ hR2) (hv2.weaken fun _ _ => trivial))
  have HV2 := zh hv2
  clear hv2 hb2 hR1
  go_wp2_with fail
  refine Hr2.out.mono ?_
  rintro e w3 ⟨rfl, hb3⟩
  have hR3 := hRn _ _ hR2 hb3
  have y13 := y1 _ hR3
  have z13 := z1 _ hR3
  have z23 := z2 _ hR3
  have Hm3 := zh (Hm2.out _ _ (hRb _ hR3) ((HV2.out.below hb3).weaken fun _ _ => trivial))
  clear hb3 y12
  go_wp2_with fail
  refine Hm3.out.mono ?_
  rintro e w4 ⟨v4, rfl, hv4, hb4⟩
  obtain ⟨⟨p4, c4⟩, rfl⟩ := hv4.shape
  have hR4 := hRn _ _ hR3 hb4
  clear hv4 hb4
  go_wp2_with fail
  go_ret3
  exact ⟨_, _, rfl, Ah.nil _ _ _ _ (by omega), AE.nil _ _ _ _ (by omega), hRb _ hR4⟩
 rw [if_pos hm, hm]
 rw [hm] at Hm2
 clear hm
 go_enter Tryz.func75, Tryz.ntmps75
 go_wp2_with fail
 refine Ha1.out.mono ?_
 rintro e w2 ⟨v2, rfl, hv2, hb2⟩
 obtain ⟨a2, c2, rfl⟩ := hv2.vshape
 have hR2 := hRn _ _ hR1 hb2
 have y12 := y1 _ hR2
 have Hr2 := zh (Hr.out Hri.out.rising _ _ (hRb _ hR2) (hv2.weaken fun _ _ => trivial))
 have HV2 := zh hv2
 clear hv2 hb2 hR1
 go_wp2_with fail
 refine Hr2.out.mono ?_
 rintro e w3 ⟨rfl, hb3⟩
 have hR3 := hRn _ _ hR2 hb3
 have y13 := y1 _ hR3
 have z13 := z1 _ hR3
 have z23 := z2 _ hR3
 have Hm3 := zh (Hm2.out _ _ (hRb _ hR3) ((HV2.out.below hb3).weaken fun _ _ => trivial))
 have HV3 := zh (HV2.out.below hb3)
 clear hb3 y12
 go_wp2_with fail
 refine Hm3.out.mono ?_
 rintro e w4 ⟨v4, rfl, hv4, hb4⟩
 obtain ⟨⟨p4, c4⟩, rfl⟩ := hv4.shape
 have hR4 := hRn _ _ hR3 hb4
 have hs3 := (hRb _ hR3).size
 have HX := zh (And.intro ((HV3.out.below hb4).weaken (S' := fun b => w.heap.size ≤ b) (fun b hb => by simp only [World.size_alloc] at hb; omega)) (hv4.weaken (S' := fun b => w.heap.size ≤ b) (fun b hb => by omega)))
 clear hv4 hb4
 go_wp2_with fail
 go_ret3
 exact ⟨_, _, rfl, HX.out.1, HX.out.2, hRb _ hR4⟩
theorem Rn (r : An) (p : BJ) (sv rv ov uv ov2 uv2 : Value) (S S1 S2 S3 : Nat → Prop) (w : World) (hs : Ah S w sv r.store) (hr : AE S1 w rv r.refs) (ho : Ah S2 w ov p.objects) (hu : AM S3 w uv p.updates) (hp : AO p.updates = 0)
  (h2 : (∃ a n c, ov2 = .slice a n c) ∧ ∃ a n c, uv2 = .slice a n c) :
  Calls Tryz.prog 75 #[.agg #[sv, rv, .int .i64 r.gen, .int .i64 r.phase, ov2, uv2, .bool r.pend.force], .agg #[ov, uv, .bool p.force]] w fun e w' => SX w w' e (Ff r p) (EG r p) (Bn r p) :=
 (Kg r p sv rv ov uv ov2 uv2 S S1 S2 S3 w hs hr ho hu hp h2).mono fun _ _ h => h.e
theorem Qv (r : An) (p : BJ) (sv rv ov uv ov2 uv2 : Value) (S S1 S2 S3 : Nat → Prop) (w : World) (hs : Ah S w sv r.store) (hr : AE S1 w rv r.refs) (ho : Ah S2 w ov p.objects) (hu : AM S3 w uv p.updates)
  (h2 : (∃ a n c, ov2 = .slice a n c) ∧ ∃ a n c, uv2 = .slice a n c) :
  Calls Tryz.prog 19 #[.agg #[sv, rv, .int .i64 r.gen, .int .i64 r.phase, ov2, uv2, .bool r.pend.force], .agg #[ov, uv, .bool p.force]] w fun e w' => GI (fun b => (S b ∨ S1 b ∨ S2 b) ∨ w.heap.size ≤ b) w w' e (Ff r p) (EG r p) (Bn r p) := by
 have Ha := zh (fun x (hx : Below w.heap.size w x) => VV r.store p.objects _ _ _ _ x (hs.below hx) (ho.below hx))
 have Hm := zh (fun x v (hx : Below w.heap.size w x) (hv : Ah (fun _ => True) x v (Cz r.store p.objects)) => SL r.refs (Cz r.store p.objects) p.updates p.force _ _ _ _ _ _ x (hr.below hx) hv (hu.below hx))
 have HE := zh (show Bn r p = if Dx r.store p.objects ≠ 0 then Dx r.store p.objects else CN r.refs (Cz r.store p.objects) p.updates p.force from rfl)
 have HL := zh (show Ff r p = if Bn r p = 0 then Cz r.store p.objects else [] from rfl)
 have HM := zh (show EG r p = if Bn r p = 0 then Ef r.refs (Cz r.store p.objects) p.updates p.force else [] from rfl)
 have HP := zh (show Ef r.refs (Cz r.store p.objects) p.updates p.force = if CN r.refs (Cz r.store p.objects) p.updates p.force = 0 then AL r.refs p.updates p.updates.length else [] from rfl)
 obtain ⟨sa, sc, rfl⟩ := hs.vshape
 obtain ⟨⟨ra, rc⟩, rfl⟩ := hr.shape
 obtain ⟨oa, oc, rfl⟩ := ho.vshape
 obtain ⟨⟨ua, uc⟩, rfl⟩ := hu.shape
 obtain ⟨⟨oa2, on2, oc2, rfl⟩, ⟨ua2, un2, uc2, rfl⟩⟩ := h2
 obtain ⟨R, hR, hR1, hy, hz⟩ := IZ w #[.slice sa r.store.length sc, .slice ra r.refs.length rc, .int .i64 r.gen, .int .i64 r.phase, .slice oa2 on2 oc2, .slice ua2 un2 uc2, .bool r.pend.force] #[.slice oa p.objects.length oc, .slice ua p.updates.length uc, .bool p.force] 28 26
 have y1 := hy 1 _ rfl
 have z1 := hz 1 _ rfl
 have z2 := hz 2 _ rfl
 have hRb := hR.below
 have hRn := hR.next
 clear hy hz hs hr ho hu
 have Ha1 := zh (Ha.out _ (hRb _ hR1))
 by_cases ha : Dx r.store p.objects = 0
 case neg =>
  have HX := zh (show Bn r p = Dx r.store p.objects by rw [HE.out, if_pos ha])
  have HX1 := zh (show Ff r p = [] by rw [HL.out, HX.out, if_neg ha])
  have HX2 := zh (show EG r p = [] by rw [HM.out, HX.out, if_neg ha])
  have q : (Dx r.store p.objects != 0) = true := by simpa using ha
  rw [HX1.out, HX2.out, HX.out]
  clear ha y1 z1 z2
  go_enter Tryz.func19, Tryz.ntmps19
  go_wp2_with fail
  refine Ha1.out.mono ?_
  rintro e w2 ⟨v2, rfl, hv2, hb2⟩
  obtain ⟨a2, c2, rfl⟩ := hv2.vshape
  have hR2 := hRn _ _ hR1 hb2
  clear hv2 hb2
  go_wp2_with fail
  go_ret3
  exact ⟨_, _, rfl, Ah.nil _ _ _ _ (by omega), AE.nil _ _ _ _ (by omega), hRb _ hR2⟩
 have HX := zh (show Bn r p = CN r.refs (Cz r.store p.objects) p.updates p.force by rw [HE.out, if_neg (by simp [ha])])
 have HX1 := zh (show Ff r p = if CN r.refs (Cz r.store p.objects) p.updates p.force = 0 then Cz r.store p.objects else [] by rw [HL.out, HX.out])
 have HX2 := zh (show EG r p = Ef r.refs (Cz r.store p.objects) p.updates p.force by rw [HM.out, HX.out]; split; rfl; rename_i h; rw [HP.out, if_neg h])
 rw [ha] at Ha1
 rw [HX1.out, HX2.out, HX.out]
 clear ha HX HX1 HX2 HE HL HM
 generalize Cz r.store p.objects = L at *
 by_cases hm : CN r.refs L p.updates p.force = 0
 case neg =>
  have q : (CN r.refs L p.updates p.force != 0) = true := by simpa using hm
  have Hnm := zh (show Ef r.refs L p.updates p.force = [] by rw [HP.out, if_neg hm])
  rw [if_neg hm]
  rw [Hnm.out] at Hm ⊢
  clear hm HP
  go_enter Tryz.func19, Tryz.ntmps19
  go_wp2_with fail
  refine Ha1.out.mono ?_
  rintro e w2 ⟨v2, rfl, hv2, hb2⟩
  obtain ⟨a2, c2, rfl⟩ := hv2.vshape
  have hR2 := hRn _ _ hR1 hb2
  have y13 := y1 _ hR2
  have z13 := z1 _ hR2
  have z23 := z2 _ hR2
  have Hm3 := zh (Hm.out _ _ (hRb _ hR2) (hv2.weaken fun _ _ => trivial))
  clear hv2 hb2 hR1
  go_wp2_with fail
  refine Hm3.out.mono ?_
  rintro e w4 ⟨v4, rfl, hv4, hb4⟩
  obtain ⟨⟨p4, c4⟩, rfl⟩ := hv4.shape
  have hR4 := hRn _ _ hR2 hb4
  clear hv4 hb4
  go_wp2_with fail
  go_ret3
  exact ⟨_, _, rfl, Ah.nil _ _ _ _ (by omega), AE.nil _ _ _ _ (by omega), hRb _ hR4⟩
 rw [if_pos hm, hm]
 rw [hm] at Hm
 clear hm HP
 go_enter Tryz.func19, Tryz.ntmps19
 go_wp2_with fail
 refine Ha1.out.mono ?_
 rintro e w2 ⟨v2, rfl, hv2, hb2⟩
 obtain ⟨a2, c2, rfl⟩ := hv2.vshape
 have hR2 := hRn _ _ hR1 hb2
 have y13 := y1 _ hR2
 have z13 := z1 _ hR2
 have z23 := z2 _ hR2
 have Hm3 := zh (Hm.out _ _ (hRb _ hR2) (hv2.weaken fun _ _ => trivial))
 have HV2 := zh hv2
 clear hv2 hb2 hR1
 go_wp2_with fail
 refine Hm3.out.mono ?_
 rintro e w4 ⟨v4, rfl, hv4, hb4⟩
 obtain ⟨⟨p4, c4⟩, rfl⟩ := hv4.shape
 have hR4 := hRn _ _ hR2 hb4
 have hs2 := (hRb _ hR2).size
 have HX := zh (And.intro ((HV2.out.below hb4).weaken (S' := (fun b => (S b ∨ S1 b ∨ S2 b) ∨ w.heap.size ≤ b)) (fun b hb => hb.elim (fun h => h.elim (fun h => .inl (.inl h)) (fun h => .inl (.inr (.inr h)))) (fun h => .inr (by simp only [World.size_alloc] at h; omega)))) (hv4.weaken (S' := (fun b => (S b ∨ S1 b ∨ S2 b) ∨ w.heap.size ≤ b)) (fun b hb => hb.elim (fun h => .inl (.inr (.inl h))) (fun h => .inr (by omega)))))
 clear hv4 hb4
 go_wp2_with fail
 go_ret3
 exact ⟨_, _, rfl, HX.out.1, HX.out.2, hRb _ hR4⟩
theorem Uq (r : An) (p : BJ) (sv rv ov uv ov2 uv2 : Value) (S S1 S2 S3 : Nat → Prop) (w : World) (hs : Ah S w sv r.store) (hr : AE S1 w rv r.refs) (ho : Ah S2 w ov p.objects) (hu : AM S3 w uv p.updates)
  (h2 : (∃ a n c, ov2 = .slice a n c) ∧ ∃ a n c, uv2 = .slice a n c) :
  Calls Tryz.prog 19 #[.agg #[sv, rv, .int .i64 r.gen, .int .i64 r.phase, ov2, uv2, .bool r.pend.force], .agg #[ov, uv, .bool p.force]] w fun e w' => SX w w' e (Ff r p) (EG r p) (Bn r p) :=
 (Qv r p sv rv ov uv ov2 uv2 S S1 S2 S3 w hs hr ho hu h2).mono fun _ _ h => h.e
end Go.Proofs.YtjdgpgfiomnjkaaGreatDoor
