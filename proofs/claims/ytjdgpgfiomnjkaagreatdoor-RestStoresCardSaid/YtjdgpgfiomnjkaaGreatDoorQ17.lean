
/- Walks: pushes: what they read as; Check, Raw, Try and the reference's CheckPush, TryOf. -/
import Derived.Test.YtjdgpgfiomnjkaaGreatDoorQ15
import Derived.Test.YtjdgpgfiomnjkaaGreatDoorQ16
import Derived.Test.YtjdgpgfiomnjkaaGreatDoorQ12
namespace Go.Proofs.YtjdgpgfiomnjkaaGreatDoor
open Go.RowKit
set_option linter.unusedVariables false
set_option linter.unusedSimpArgs false
set_option linter.unusedSectionVars false
variable [Ghost]
structure Psh where
 objects : List Obj
 updates : List Mv
 force : Bool
structure Rep where
 store : List Obj
 refs : List Rf
 gen : Int
 phase : Int
 pend : Psh
def psh0 : Psh := ⟨[], [], false⟩
def rep0 : Rep := ⟨[], [], 0, 0, psh0⟩
def checkPsh (p : Psh) : Int := if 12 < p.objects.length then 2 else if eachE p.objects ≠ 0 then eachE p.objects else checkMvs p.updates
def tryE (r : Rep) (p : Psh) : Int := if addE r.store p.objects ≠ 0 then addE r.store p.objects else applyE r.refs (addL r.store p.objects) p.updates p.force
def tryL (r : Rep) (p : Psh) : List Obj := if tryE r p = 0 then addL r.store p.objects else []
def tryM (r : Rep) (p : Psh) : List Rf := if tryE r p = 0 then applyR r.refs (addL r.store p.objects) p.updates p.force else []
theorem cls_two (w : World) (cs ds : Array Value) (t u : TypeId) : ∃ R : World → Prop, Cls w R ∧ In R ((w.alloc (.cells cs t)).alloc (.cells ds u)) ∧
  (∀ j v, cs[j]? = some v → ∀ x, In R x → x.cell? ⟨w.heap.size, j, none⟩ = some v) ∧ (∀ j v, ds[j]? = some v → ∀ x, In R x → x.cell? ⟨w.heap.size + 1, j, none⟩ = some v) := by
 have hb : Below w.heap.size w ((w.alloc (.cells cs t)).alloc (.cells ds u)) := ((Below.refl _ _).alloc (Nat.le_refl _) _).alloc (by simp) _
 refine ⟨_, cls_of w _ (w.heap.size + 2) (by omega) (by simp) hb, Below.refl _ _, fun j v hv x hx => ?_, fun j v hv x hx => ?_⟩
 ·rw [Below.cell hx (p := ⟨w.heap.size, j, none⟩) (by simp)]
  rw [World.cell?_alloc_lt _ _ _ (by simp), World.cell?_alloc_at _ _ _ _ rfl]; exact hv
 ·rw [Below.cell hx (p := ⟨w.heap.size + 1, j, none⟩) (by simp)]
  rw [World.cell?_alloc_at _ _ _ _ (by simp)]; exact hv
theorem checkPsh_zero {p : Psh} (h : checkPsh p = 0) : p.objects.length ≤ 12 ∧ eachE p.objects = 0 ∧ checkMvs p.updates = 0 := by
 unfold checkPsh at h
 by_cases h1 : 12 < p.objects.length
 ·rw [if_pos h1] at h; exact absurd h (by decide)
 ·rw [if_neg h1] at h
  by_cases h2 : eachE p.objects ≠ 0
  ·rw [if_pos h2] at h; exact absurd h h2
  ·rw [if_neg h2] at h; exact ⟨by omega, by simpa using h2, h⟩
set_option maxRecDepth 100000 in
set_option maxHeartbeats 2000000 in
theorem pushCheck_any (p : Psh) (ov uv : Value) (S S' : Nat → Prop) (w : World) (ho : StoreV S w ov p.objects) (hu : MvsV S' w uv p.updates) :
  Calls Tryz.prog 58 #[.agg #[ov, uv, .bool p.force]] w fun e w' => e = .returned (.int .i64 (checkPsh p)) ∧ Below w.heap.size w w' := by
 have HE := Lib.hid (fun x (hx : Below w.heap.size w x) => each_any (checks_does p.objects x) ov S (ho.below hx) (Below.refl _ _))
 have HM := Lib.hid (fun x (hx : Below w.heap.size w x) => updCheck_any p.updates _ _ x (hu.below hx))
 have HW := Lib.hid (show checkPsh p = if 12 < p.objects.length then 2 else if eachE p.objects ≠ 0 then eachE p.objects else checkMvs p.updates from rfl)
 have hee : scan (fun k => checkObj (obj p.objects k)) p.objects.length = eachE p.objects := rfl
 rw [hee] at HE
 obtain ⟨oa, oc, rfl⟩ := ho.vshape
 obtain ⟨⟨ua, uc⟩, rfl⟩ := hu.shape
 obtain ⟨R, hR, hR1, hy⟩ := cls_box w #[.slice oa p.objects.length oc, .slice ua p.updates.length uc, .bool p.force] 26
 have y0 := hy 0 _ rfl
 have y1 := hy 1 _ rfl
 have hRb := hR.below
 have hRn := hR.next
 have y01 := y0 _ hR1
 clear hy ho hu hee
 generalize eachE p.objects = ee at *
 generalize checkMvs p.updates = mm at *
 by_cases h12 : 12 < p.objects.length
 ·have hd : decide ((12 : Int) < (p.objects.length : Int)) = true := by simp; omega
  rw [HW.out, if_pos h12]
  go_enter Tryz.func58, Tryz.ntmps58
  go_wp2_with fail
  go_ret
  exact ⟨rfl, hRb _ hR1⟩
 ·have hd : decide ((12 : Int) < (p.objects.length : Int)) = false := by simp; omega
  rw [HW.out, if_neg h12]
  have HE2 := Lib.hid (HE.out _ (hRb _ hR1))
  clear h12 HW HE
  by_cases he : ee = 0
  ·rw [if_neg (by simp [he])]
   rw [he] at HE2
   clear he
   go_enter Tryz.func58, Tryz.ntmps58
   go_wp2_with fail
   refine HE2.out.mono ?_
   rintro e w2 ⟨rfl, hb2, _⟩
   have hR2 := hRn _ _ hR1 hb2
   have y12 := y1 _ hR2
   clear hb2 hR1 y01
   go_wp2_with fail
   refine (HM.out _ (hRb _ hR2)).mono ?_
   rintro e w3 ⟨rfl, hb3⟩
   have hR3 := hRn _ _ hR2 hb3
   go_wp2_with fail
   go_ret
   exact ⟨rfl, hRb _ hR3⟩
  ·rw [if_pos he]
   have q : (ee != 0) = true := by simpa using he
   clear he
   go_enter Tryz.func58, Tryz.ntmps58
   go_wp2_with fail
   refine HE2.out.mono ?_
   rintro e w2 ⟨rfl, hb2, _⟩
   have hR2 := hRn _ _ hR1 hb2
   clear hb2 hR1 y01
   go_wp2_with fail
   go_ret
   exact ⟨rfl, hRb _ hR2⟩
set_option maxRecDepth 100000 in
set_option maxHeartbeats 2000000 in
theorem checkPush_any (p : Psh) (ov uv : Value) (S S' : Nat → Prop) (w : World) (ho : StoreV S w ov p.objects) (hu : MvsV S' w uv p.updates) :
  Calls Tryz.prog 18 #[.agg #[ov, uv, .bool p.force]] w fun e w' => e = .returned (.int .i64 (checkPsh p)) ∧ Below w.heap.size w w' := by
 have ho' := ho
 have HM := Lib.hid (fun x (hx : Below w.heap.size w x) => checkUpdates_any p.updates _ _ x (hu.below hx))
 have HW := Lib.hid (show checkPsh p = if 12 < p.objects.length then 2 else if eachE p.objects ≠ 0 then eachE p.objects else checkMvs p.updates from rfl)
 have HS := Lib.hid (show eachE p.objects = scan (fun k => checkObj (obj p.objects k)) p.objects.length from rfl)
 obtain ⟨oa, n, oc, la, ln, lc, HN, rfl, h1, h2, h3, h4, h5⟩ := ho.open
 obtain ⟨⟨ua, uc⟩, rfl⟩ := hu.shape
 obtain ⟨R, hR, hR1, hy⟩ := cls_box w #[.slice oa n oc, .slice ua p.updates.length uc, .bool p.force] 26
 have y0 := hy 0 _ rfl
 have y1 := hy 1 _ rfl
 have hRb := hR.below
 have hRn := hR.next
 have Hn := Lib.hid HN.out.1
 have y01 := y0 _ hR1
 clear hy ho hu
 by_cases h12 : 12 < p.objects.length
 ·have hd : decide ((12 : Int) < (n : Int)) = true := by have := Hn.out; simp; omega
  rw [HW.out, if_pos h12]
  go_enter Tryz.func18, Tryz.ntmps18
  go_wp2_with fail
  go_ret
  exact ⟨rfl, hRb _ hR1⟩
 ·have hd : decide ((12 : Int) < (n : Int)) = false := by have := Hn.out; simp; omega
  have HG := Lib.hid (fun (h : scan (fun k => checkObj (obj p.objects k)) n = 0) => show checkPsh p = checkMvs p.updates by
   rw [HW.out, if_neg h12, HS.out, ← Hn.out, if_neg (by simp [h])])
  have HB := Lib.hid (fun e (h : scan (fun k => checkObj (obj p.objects k)) n = e) (he : e ≠ 0) => show checkPsh p = e by
   rw [HW.out, if_neg h12, HS.out, ← Hn.out, h, if_pos he])
  generalize checkPsh p = cp at *
  generalize checkMvs p.updates = mm at *
  clear h12 HW HS
  go_enter Tryz.func18, Tryz.ntmps18
  go_wp2_with fail
  go_loopw [3] (fun i wr => ∃ k : Nat, k ≤ n ∧ i = .int .i64 k ∧ Hid (scan (fun k => checkObj (obj p.objects k)) k = 0) ∧ In R wr) (fun i _ => n - (intOf i).toNat)
  case atStart => exact ⟨0, by omega, rfl, rfl, hR1⟩
  case round =>
   obtain ⟨k, hk, rfl, Hs, hRw⟩ := hrel
   clear hR1 y01
   have y0w := y0 _ hRw
   have y1w := y1 _ hRw
   by_cases hlt : k < n
   ·obtain ⟨b, off, rfl, hb, k0, k1, k2, k3⟩ := h4 (by omega)
    have x0 := k0 k wr hlt (hRb _ hRw)
    have x1 := k1 k wr hlt (hRb _ hRw)
    have x2 := k2 k wr hlt (hRb _ hRw)
    have x3 := k3 k wr hlt (hRb _ hRw)
    have Hc := Lib.hid (checkObject_any (obj p.objects k) _ _ wr ((h5 k hlt).below (hRb _ hRw)))
    have hi1 : (0 : Int) ≤ (k : Int) := by omega
    have hi2 : (k : Int) < (n : Int) := by omega
    clear h4 h5 k0 k1 k2 k3
    by_cases he : checkObj (obj p.objects k) = 0
    ·have Hs2 := Lib.hid (scan_next Hs.out he)
     rw [he] at Hc
     clear he
     go_wp2_with fail
     refine Hc.out.mono ?_
     rintro e w2 ⟨rfl, hb2⟩
     have hR2 := hRn _ _ hRw hb2
     clear hb2
     go_wp2_with fail
     go_roundw
     case rel => exact ⟨k + 1, by omega, by go_num, Hs2.out, hR2⟩
     case measure => simp [intOf]; omega
    ·have Hs2 := Lib.hid (show scan (fun k => checkObj (obj p.objects k)) n = checkObj (obj p.objects k) from scan_hit Hs.out he hlt)
     have q : (checkObj (obj p.objects k) != 0) = true := by simpa using he
     have He := Lib.hid (HB.out _ Hs2.out he)
     clear he
     go_wp2_with fail
     refine Hc.out.mono ?_
     rintro e w2 ⟨rfl, hb2⟩
     have hR2 := hRn _ _ hRw hb2
     clear hb2
     go_wp2_with fail
     go_ret
     exact ⟨ret_int He.out.symm, hRb _ hR2⟩
   ·obtain rfl : k = n := by omega
    have Hs2 := Lib.hid (HG.out Hs.out)
    go_wp2_with fail
    refine (HM.out _ (hRb _ hRw)).mono ?_
    rintro e w3 ⟨rfl, hb3⟩
    have hR3 := hRn _ _ hRw hb3
    go_wp2_with fail
    go_ret
    exact ⟨ret_int Hs2.out.symm, hRb _ hR3⟩
def RetTry (w w' : World) (e : Ending) (l : List Obj) (m : List Rf) (c : Int) : Prop :=
 ∃ v u, e = .returned (.tuple #[v, u, .int .i64 c]) ∧ StoreV (fun _ => True) w' v l ∧ RefsV (fun _ => True) w' u m ∧ Below w.heap.size w w'
def RetTryP (P : Nat → Prop) (w w' : World) (e : Ending) (l : List Obj) (m : List Rf) (c : Int) : Prop :=
 ∃ v u, e = .returned (.tuple #[v, u, .int .i64 c]) ∧ StoreV P w' v l ∧ RefsV P w' u m ∧ Below w.heap.size w w'
theorem RetTryP.e {P : Nat → Prop} {w w' : World} {e : Ending} {l : List Obj} {m : List Rf} {c : Int} (h : RetTryP P w w' e l m c) : RetTry w w' e l m c :=
 let ⟨v, u, h1, h2, h3, h4⟩ := h; ⟨v, u, h1, h2.weaken fun _ _ => trivial, h3.weaken fun _ _ => trivial, h4⟩
theorem RetTryP.weaken {P P' : Nat → Prop} {w w' : World} {e : Ending} {l : List Obj} {m : List Rf} {c : Int} (h : RetTryP P w w' e l m c) (hP : ∀ b, P b → P' b) : RetTryP P' w w' e l m c :=
 let ⟨v, u, h1, h2, h3, h4⟩ := h; ⟨v, u, h1, h2.weaken hP, h3.weaken hP, h4⟩
theorem tryE_of {r : Rep} {p : Psh} (hp : checkMvs p.updates = 0) (ha : addE r.store p.objects = 0) : tryE r p = if rightErr r.refs (addL r.store p.objects) ≠ 0 then rightErr r.refs (addL r.store p.objects) else movedE r.refs (addL r.store p.objects) p.updates p.force := by
 have hc := (add_ok ha).whole
 have hr : checkRefs r.refs (addL r.store p.objects) = rightErr r.refs (addL r.store p.objects) := by unfold checkRefs; rw [if_neg (by simp [hc])]
 unfold tryE applyE
 rw [if_neg (by simp [ha]), hr]
 by_cases h : rightErr r.refs (addL r.store p.objects) = 0
 ·rw [if_neg (by simp [h]), if_neg (by simp [hp]), if_neg (by simp [h])]
 ·rw [if_pos h, if_pos h]
set_option maxRecDepth 100000 in
set_option maxHeartbeats 4000000 in
theorem pushRawF_any (r : Rep) (p : Psh) (sv rv ov uv ov2 uv2 : Value) (S S1 S2 S3 : Nat → Prop) (w : World) (hs : StoreV S w sv r.store) (hr : RefsV S1 w rv r.refs) (ho : StoreV S2 w ov p.objects) (hu : MvsV S3 w uv p.updates) (hp : checkMvs p.updates = 0)
  (h2 : (∃ a n c, ov2 = .slice a n c) ∧ ∃ a n c, uv2 = .slice a n c) :
  Calls Tryz.prog 75 #[.agg #[sv, rv, .int .i64 r.gen, .int .i64 r.phase, ov2, uv2, .bool r.pend.force], .agg #[ov, uv, .bool p.force]] w fun e w' => RetTryP (fun b => w.heap.size ≤ b) w w' e (tryL r p) (tryM r p) (tryE r p) := by
 have Ha := Lib.hid (fun x (hx : Below w.heap.size w x) => addF_any r.store p.objects _ _ _ _ x (hs.below hx) (ho.below hx))
 have Hr := Lib.hid (fun hR x v (hx : Below w.heap.size w x) (hv : StoreV (fun _ => True) x v (addL r.store p.objects)) => right_any r.refs (addL r.store p.objects) _ _ _ _ x (hr.below hx) hv hR)
 have Hm := Lib.hid (fun hk hR hul x v (hx : Below w.heap.size w x) (hv : StoreV (fun _ => True) x v (addL r.store p.objects)) => updRaw_any r.refs (addL r.store p.objects) p.updates p.force _ _ _ _ _ _ x (hr.below hx) hv (hu.below hx) hk hR hul)
 have HE := Lib.hid (show addE r.store p.objects ≠ 0 → tryE r p = addE r.store p.objects from fun h => by unfold tryE; rw [if_pos h])
 have HT := Lib.hid (tryE_of (r := r) hp)
 have HL := Lib.hid (show tryL r p = if tryE r p = 0 then addL r.store p.objects else [] from rfl)
 have HM := Lib.hid (show tryM r p = if tryE r p = 0 then applyR r.refs (addL r.store p.objects) p.updates p.force else [] from rfl)
 have HA := Lib.hid (show movedR r.refs (addL r.store p.objects) p.updates p.force = if movedE r.refs (addL r.store p.objects) p.updates p.force = 0 then movedL r.refs p.updates p.updates.length else [] from rfl)
 have HP := Lib.hid (show applyR r.refs (addL r.store p.objects) p.updates p.force = if applyE r.refs (addL r.store p.objects) p.updates p.force = 0 then movedL r.refs p.updates p.updates.length else [] from rfl)
 have HTa := Lib.hid (show addE r.store p.objects = 0 → tryE r p = applyE r.refs (addL r.store p.objects) p.updates p.force from fun h => by unfold tryE; rw [if_neg (by simp [h])])
 have h4 := (mvs_ok.1 hp).many
 obtain ⟨sa, sc, rfl⟩ := hs.vshape
 obtain ⟨⟨ra, rc⟩, rfl⟩ := hr.shape
 obtain ⟨oa, oc, rfl⟩ := ho.vshape
 obtain ⟨⟨ua, uc⟩, rfl⟩ := hu.shape
 obtain ⟨⟨oa2, on2, oc2, rfl⟩, ⟨ua2, un2, uc2, rfl⟩⟩ := h2
 obtain ⟨R, hR, hR1, hy, hz⟩ := cls_two w #[.slice sa r.store.length sc, .slice ra r.refs.length rc, .int .i64 r.gen, .int .i64 r.phase, .slice oa2 on2 oc2, .slice ua2 un2 uc2, .bool r.pend.force] #[.slice oa p.objects.length oc, .slice ua p.updates.length uc, .bool p.force] 28 26
 have y1 := hy 1 _ rfl
 have z1 := hz 1 _ rfl
 have z2 := hz 2 _ rfl
 have hRb := hR.below
 have hRn := hR.next
 clear hy hz hs hr ho hu
 have Ha1 := Lib.hid (Ha.out _ (hRb _ hR1))
 by_cases ha : addE r.store p.objects = 0
 case neg =>
  have HX := Lib.hid (HE.out ha)
  have HX1 := Lib.hid (show tryL r p = [] by rw [HL.out, HX.out, if_neg ha])
  have HX2 := Lib.hid (show tryM r p = [] by rw [HM.out, HX.out, if_neg ha])
  have q : (addE r.store p.objects != 0) = true := by simpa using ha
  rw [HX1.out, HX2.out, HX.out]
  clear ha y1 z1 z2
  go_enter Tryz.func75, Tryz.ntmps75
  go_wp2_with fail
  refine Ha1.out.mono ?_
  rintro e w2 ⟨v2, rfl, hv2, hb2⟩
  obtain ⟨a2, c2, rfl⟩ := hv2.vshape
  have hR2 := hRn _ _ hR1 hb2
  clear hv2 hb2
  go_wp2_with fail
  go_ret3
  exact ⟨_, _, rfl, StoreV.nil _ _ _ _ (by omega), RefsV.nil _ _ _ _ (by omega), hRb _ hR2⟩
 case pos =>
  have hc := (add_ok ha).whole
  have Hri := Lib.hid (right_of hc)
  have HT2 := Lib.hid (HT.out ha)
  have HTa2 := Lib.hid (HTa.out ha)
  rw [ha] at Ha1
  clear HE HTa HT ha hc
  generalize addL r.store p.objects = L at *
  by_cases hg : rightErr r.refs L = 0
  case neg =>
   have HX := Lib.hid (show tryE r p = rightErr r.refs L by rw [HT2.out, if_pos hg])
   have HX1 := Lib.hid (show tryL r p = [] by rw [HL.out, HX.out, if_neg hg])
   have HX2 := Lib.hid (show tryM r p = [] by rw [HM.out, HX.out, if_neg hg])
   have q : (rightErr r.refs L != 0) = true := by simpa using hg
   rw [HX1.out, HX2.out, HX.out]
   clear hg z1 z2
   go_enter Tryz.func75, Tryz.ntmps75
   go_wp2_with fail
   refine Ha1.out.mono ?_
   rintro e w2 ⟨v2, rfl, hv2, hb2⟩
   obtain ⟨a2, c2, rfl⟩ := hv2.vshape
   have hR2 := hRn _ _ hR1 hb2
   have y12 := y1 _ hR2
   have Hr2 := Lib.hid (Hr.out Hri.out.rising _ _ (hRb _ hR2) (hv2.weaken fun _ _ => trivial))
   clear hv2 hb2 hR1
   go_wp2_with fail
   refine Hr2.out.mono ?_
   rintro e w3 ⟨rfl, hb3⟩
   have hR3 := hRn _ _ hR2 hb3
   clear hb3
   go_wp2_with fail
   go_ret3
   exact ⟨_, _, rfl, StoreV.nil _ _ _ _ (by omega), RefsV.nil _ _ _ _ (by omega), hRb _ hR3⟩
  case pos =>
   have hok := rightErr_zero hg
   have HX := Lib.hid (show tryE r p = movedE r.refs L p.updates p.force by rw [HT2.out, if_neg (by simp [hg])])
   have HX1 := Lib.hid (show tryL r p = if movedE r.refs L p.updates p.force = 0 then L else [] by rw [HL.out, HX.out])
   have HX2 := Lib.hid (show tryM r p = movedR r.refs L p.updates p.force by
    rw [HM.out, HA.out, HP.out, ← HTa2.out, HX.out]; split <;> rfl)
   have Hm2 := Lib.hid (Hm.out hok Hri.out (by omega))
   rw [HX1.out, HX2.out, HX.out]
   rw [hg] at Hr
   clear hg hok HT2 HTa2 HX HX1 HX2 HL HM HA HP Hm
   by_cases hm : movedE r.refs L p.updates p.force = 0
   case neg =>
    have q : (movedE r.refs L p.updates p.force != 0) = true := by simpa using hm
    have Hnm := Lib.hid (show movedR r.refs L p.updates p.force = [] by unfold movedR; rw [if_neg hm])
    rw [if_neg hm]
    rw [Hnm.out] at Hm2 ⊢
    clear hm
    go_enter Tryz.func75, Tryz.ntmps75
    go_wp2_with fail
    refine Ha1.out.mono ?_
    rintro e w2 ⟨v2, rfl, hv2, hb2⟩
    obtain ⟨a2, c2, rfl⟩ := hv2.vshape
    have hR2 := hRn _ _ hR1 hb2
    have y12 := y1 _ hR2
    have Hr2 := Lib.hid (Hr.out Hri.out.rising _ _ (hRb _ hR2) (hv2.weaken fun _ _ => trivial))
    have HV2 := Lib.hid hv2
    clear hv2 hb2 hR1
    go_wp2_with fail
    refine Hr2.out.mono ?_
    rintro e w3 ⟨rfl, hb3⟩
    have hR3 := hRn _ _ hR2 hb3
    have y13 := y1 _ hR3
    have z13 := z1 _ hR3
    have z23 := z2 _ hR3
    have Hm3 := Lib.hid (Hm2.out _ _ (hRb _ hR3) ((HV2.out.below hb3).weaken fun _ _ => trivial))
    clear hb3 y12
    go_wp2_with fail
    refine Hm3.out.mono ?_
    rintro e w4 ⟨v4, rfl, hv4, hb4⟩
    obtain ⟨⟨p4, c4⟩, rfl⟩ := hv4.shape
    have hR4 := hRn _ _ hR3 hb4
    clear hv4 hb4
    go_wp2_with fail
    go_ret3
    exact ⟨_, _, rfl, StoreV.nil _ _ _ _ (by omega), RefsV.nil _ _ _ _ (by omega), hRb _ hR4⟩
   case pos =>
    rw [if_pos hm, hm]
    rw [hm] at Hm2
    clear hm
    go_enter Tryz.func75, Tryz.ntmps75
    go_wp2_with fail
    refine Ha1.out.mono ?_
    rintro e w2 ⟨v2, rfl, hv2, hb2⟩
    obtain ⟨a2, c2, rfl⟩ := hv2.vshape
    have hR2 := hRn _ _ hR1 hb2
    have y12 := y1 _ hR2
    have Hr2 := Lib.hid (Hr.out Hri.out.rising _ _ (hRb _ hR2) (hv2.weaken fun _ _ => trivial))
    have HV2 := Lib.hid hv2
    clear hv2 hb2 hR1
    go_wp2_with fail
    refine Hr2.out.mono ?_
    rintro e w3 ⟨rfl, hb3⟩
    have hR3 := hRn _ _ hR2 hb3
    have y13 := y1 _ hR3
    have z13 := z1 _ hR3
    have z23 := z2 _ hR3
    have Hm3 := Lib.hid (Hm2.out _ _ (hRb _ hR3) ((HV2.out.below hb3).weaken fun _ _ => trivial))
    have HV3 := Lib.hid (HV2.out.below hb3)
    clear hb3 y12
    go_wp2_with fail
    refine Hm3.out.mono ?_
    rintro e w4 ⟨v4, rfl, hv4, hb4⟩
    obtain ⟨⟨p4, c4⟩, rfl⟩ := hv4.shape
    have hR4 := hRn _ _ hR3 hb4
    have hs3 := (hRb _ hR3).size
    have HX := Lib.hid (And.intro ((HV3.out.below hb4).weaken (S' := fun b => w.heap.size ≤ b) (fun b hb => by simp only [World.size_alloc] at hb; omega)) (hv4.weaken (S' := fun b => w.heap.size ≤ b) (fun b hb => by omega)))
    clear hv4 hb4
    go_wp2_with fail
    go_ret3
    exact ⟨_, _, rfl, HX.out.1, HX.out.2, hRb _ hR4⟩
theorem pushRaw_any (r : Rep) (p : Psh) (sv rv ov uv ov2 uv2 : Value) (S S1 S2 S3 : Nat → Prop) (w : World) (hs : StoreV S w sv r.store) (hr : RefsV S1 w rv r.refs) (ho : StoreV S2 w ov p.objects) (hu : MvsV S3 w uv p.updates) (hp : checkMvs p.updates = 0)
  (h2 : (∃ a n c, ov2 = .slice a n c) ∧ ∃ a n c, uv2 = .slice a n c) :
  Calls Tryz.prog 75 #[.agg #[sv, rv, .int .i64 r.gen, .int .i64 r.phase, ov2, uv2, .bool r.pend.force], .agg #[ov, uv, .bool p.force]] w fun e w' => RetTry w w' e (tryL r p) (tryM r p) (tryE r p) :=
 (pushRawF_any r p sv rv ov uv ov2 uv2 S S1 S2 S3 w hs hr ho hu hp h2).mono fun _ _ h => h.e
set_option maxRecDepth 100000 in
set_option maxHeartbeats 2000000 in
theorem pushTryF_any (r : Rep) (p : Psh) (sv rv ov uv ov2 uv2 : Value) (S S1 S2 S3 : Nat → Prop) (w : World) (hs : StoreV S w sv r.store) (hr : RefsV S1 w rv r.refs) (ho : StoreV S2 w ov p.objects) (hu : MvsV S3 w uv p.updates)
  (h2 : (∃ a n c, ov2 = .slice a n c) ∧ ∃ a n c, uv2 = .slice a n c) :
  Calls Tryz.prog 20 #[.agg #[sv, rv, .int .i64 r.gen, .int .i64 r.phase, ov2, uv2, .bool r.pend.force], .agg #[ov, uv, .bool p.force]] w
   fun e w' => RetTryP (fun b => w.heap.size ≤ b) w w' e (if checkPsh p = 0 then tryL r p else []) (if checkPsh p = 0 then tryM r p else []) (if checkPsh p = 0 then tryE r p else checkPsh p) := by
 have Hc := Lib.hid (fun x (hx : Below w.heap.size w x) => pushCheck_any p _ _ _ _ x (ho.below hx) (hu.below hx))
 have Hr := Lib.hid (fun hp x (hx : Below w.heap.size w x) => pushRawF_any r p _ _ _ _ _ _ _ _ _ _ x (hs.below hx) (hr.below hx) (ho.below hx) (hu.below hx) hp h2)
 obtain ⟨sa, sc, rfl⟩ := hs.vshape
 obtain ⟨⟨ra, rc⟩, rfl⟩ := hr.shape
 obtain ⟨oa, oc, rfl⟩ := ho.vshape
 obtain ⟨⟨ua, uc⟩, rfl⟩ := hu.shape
 obtain ⟨⟨oa2, on2, oc2, rfl⟩, ⟨ua2, un2, uc2, rfl⟩⟩ := h2
 obtain ⟨R, hR, hR1, hy, hz⟩ := cls_two w #[.slice sa r.store.length sc, .slice ra r.refs.length rc, .int .i64 r.gen, .int .i64 r.phase, .slice oa2 on2 oc2, .slice ua2 un2 uc2, .bool r.pend.force] #[.slice oa p.objects.length oc, .slice ua p.updates.length uc, .bool p.force] 28 26
 have y0 := hy 0 _ rfl
 have y1 := hy 1 _ rfl
 have y2 := hy 2 _ rfl
 have y3 := hy 3 _ rfl
 have y4 := hy 4 _ rfl
 have y5 := hy 5 _ rfl
 have y6 := hy 6 _ rfl
 have z0 := hz 0 _ rfl
 have z1 := hz 1 _ rfl
 have z2 := hz 2 _ rfl
 have hRb := hR.below
 have hRn := hR.next
 clear hy hz hs hr ho hu
 have z01 := z0 _ hR1
 have z11 := z1 _ hR1
 have z21 := z2 _ hR1
 by_cases hp : checkPsh p = 0
 case neg =>
  rw [if_neg hp, if_neg hp, if_neg hp]
  have q : (checkPsh p != 0) = true := by simpa using hp
  clear hp
  go_enter Tryz.func20, Tryz.ntmps20
  go_wp2_with fail
  refine (Hc.out _ (hRb _ hR1)).mono ?_
  rintro e w2 ⟨rfl, hb2⟩
  have hR2 := hRn _ _ hR1 hb2
  clear hb2
  go_wp2_with fail
  go_ret3
  exact ⟨_, _, rfl, StoreV.nil _ _ _ _ (by omega), RefsV.nil _ _ _ _ (by omega), hRb _ hR2⟩
 case pos =>
  rw [if_pos hp, if_pos hp, if_pos hp]
  have Hr2 := Lib.hid (Hr.out (checkPsh_zero hp).2.2)
  rw [hp] at Hc
  clear hp Hr
  go_enter Tryz.func20, Tryz.ntmps20
  go_wp2_with fail
  refine (Hc.out _ (hRb _ hR1)).mono ?_
  rintro e w2 ⟨rfl, hb2⟩
  have hR2 := hRn _ _ hR1 hb2
  have a0 := y0 _ hR2
  have a1 := y1 _ hR2
  have a2 := y2 _ hR2
  have a3 := y3 _ hR2
  have a4 := y4 _ hR2
  have a5 := y5 _ hR2
  have a6 := y6 _ hR2
  have b0 := z0 _ hR2
  have b1 := z1 _ hR2
  have b2 := z2 _ hR2
  clear hb2 hR1 z01 z11 z21
  go_wp2_with fail
  refine (Hr2.out _ (hRb _ hR2)).mono ?_
  rintro e w4 ⟨v4, u4, rfl, hv4, hu4, hb4⟩
  obtain ⟨a4', c4, rfl⟩ := hv4.vshape
  obtain ⟨⟨p4, d4⟩, rfl⟩ := hu4.shape
  have hs2 := (hRb _ hR2).size
  have HX := Lib.hid (And.intro (hv4.weaken (S' := fun b => w.heap.size ≤ b) (fun b hb => by omega)) (And.intro (hu4.weaken (S' := fun b => w.heap.size ≤ b) (fun b hb => by omega)) (hRb _ (hRn _ _ hR2 hb4))))
  clear hv4 hu4 hb4
  go_wp2_with fail
  go_ret3
  exact ⟨_, _, rfl, HX.out.1, HX.out.2.1, HX.out.2.2⟩
theorem pushTry_any (r : Rep) (p : Psh) (sv rv ov uv ov2 uv2 : Value) (S S1 S2 S3 : Nat → Prop) (w : World) (hs : StoreV S w sv r.store) (hr : RefsV S1 w rv r.refs) (ho : StoreV S2 w ov p.objects) (hu : MvsV S3 w uv p.updates)
  (h2 : (∃ a n c, ov2 = .slice a n c) ∧ ∃ a n c, uv2 = .slice a n c) :
  Calls Tryz.prog 20 #[.agg #[sv, rv, .int .i64 r.gen, .int .i64 r.phase, ov2, uv2, .bool r.pend.force], .agg #[ov, uv, .bool p.force]] w
   fun e w' => RetTry w w' e (if checkPsh p = 0 then tryL r p else []) (if checkPsh p = 0 then tryM r p else []) (if checkPsh p = 0 then tryE r p else checkPsh p) :=
 (pushTryF_any r p sv rv ov uv ov2 uv2 S S1 S2 S3 w hs hr ho hu h2).mono fun _ _ h => h.e
set_option maxRecDepth 100000 in
set_option maxHeartbeats 2000000 in
theorem tryA_any (r : Rep) (p : Psh) (sv rv ov uv ov2 uv2 : Value) (S S1 S2 S3 : Nat → Prop) (w : World) (hs : StoreV S w sv r.store) (hr : RefsV S1 w rv r.refs) (ho : StoreV S2 w ov p.objects) (hu : MvsV S3 w uv p.updates)
  (h2 : (∃ a n c, ov2 = .slice a n c) ∧ ∃ a n c, uv2 = .slice a n c) :
  Calls Tryz.prog 19 #[.agg #[sv, rv, .int .i64 r.gen, .int .i64 r.phase, ov2, uv2, .bool r.pend.force], .agg #[ov, uv, .bool p.force]] w fun e w' => RetTryP (fun b => (S b ∨ S1 b ∨ S2 b) ∨ w.heap.size ≤ b) w w' e (tryL r p) (tryM r p) (tryE r p) := by
 have Ha := Lib.hid (fun x (hx : Below w.heap.size w x) => addA_any r.store p.objects _ _ _ _ x (hs.below hx) (ho.below hx))
 have Hm := Lib.hid (fun x v (hx : Below w.heap.size w x) (hv : StoreV (fun _ => True) x v (addL r.store p.objects)) => applyA_any r.refs (addL r.store p.objects) p.updates p.force _ _ _ _ _ _ x (hr.below hx) hv (hu.below hx))
 have HE := Lib.hid (show tryE r p = if addE r.store p.objects ≠ 0 then addE r.store p.objects else applyE r.refs (addL r.store p.objects) p.updates p.force from rfl)
 have HL := Lib.hid (show tryL r p = if tryE r p = 0 then addL r.store p.objects else [] from rfl)
 have HM := Lib.hid (show tryM r p = if tryE r p = 0 then applyR r.refs (addL r.store p.objects) p.updates p.force else [] from rfl)
 have HP := Lib.hid (show applyR r.refs (addL r.store p.objects) p.updates p.force = if applyE r.refs (addL r.store p.objects) p.updates p.force = 0 then movedL r.refs p.updates p.updates.length else [] from rfl)
 obtain ⟨sa, sc, rfl⟩ := hs.vshape
 obtain ⟨⟨ra, rc⟩, rfl⟩ := hr.shape
 obtain ⟨oa, oc, rfl⟩ := ho.vshape
 obtain ⟨⟨ua, uc⟩, rfl⟩ := hu.shape
 obtain ⟨⟨oa2, on2, oc2, rfl⟩, ⟨ua2, un2, uc2, rfl⟩⟩ := h2
 obtain ⟨R, hR, hR1, hy, hz⟩ := cls_two w #[.slice sa r.store.length sc, .slice ra r.refs.length rc, .int .i64 r.gen, .int .i64 r.phase, .slice oa2 on2 oc2, .slice ua2 un2 uc2, .bool r.pend.force] #[.slice oa p.objects.length oc, .slice ua p.updates.length uc, .bool p.force] 28 26
 have y1 := hy 1 _ rfl
 have z1 := hz 1 _ rfl
 have z2 := hz 2 _ rfl
 have hRb := hR.below
 have hRn := hR.next
 clear hy hz hs hr ho hu
 have Ha1 := Lib.hid (Ha.out _ (hRb _ hR1))
 by_cases ha : addE r.store p.objects = 0
 case neg =>
  have HX := Lib.hid (show tryE r p = addE r.store p.objects by rw [HE.out, if_pos ha])
  have HX1 := Lib.hid (show tryL r p = [] by rw [HL.out, HX.out, if_neg ha])
  have HX2 := Lib.hid (show tryM r p = [] by rw [HM.out, HX.out, if_neg ha])
  have q : (addE r.store p.objects != 0) = true := by simpa using ha
  rw [HX1.out, HX2.out, HX.out]
  clear ha y1 z1 z2
  go_enter Tryz.func19, Tryz.ntmps19
  go_wp2_with fail
  refine Ha1.out.mono ?_
  rintro e w2 ⟨v2, rfl, hv2, hb2⟩
  obtain ⟨a2, c2, rfl⟩ := hv2.vshape
  have hR2 := hRn _ _ hR1 hb2
  clear hv2 hb2
  go_wp2_with fail
  go_ret3
  exact ⟨_, _, rfl, StoreV.nil _ _ _ _ (by omega), RefsV.nil _ _ _ _ (by omega), hRb _ hR2⟩
 case pos =>
  have HX := Lib.hid (show tryE r p = applyE r.refs (addL r.store p.objects) p.updates p.force by rw [HE.out, if_neg (by simp [ha])])
  have HX1 := Lib.hid (show tryL r p = if applyE r.refs (addL r.store p.objects) p.updates p.force = 0 then addL r.store p.objects else [] by rw [HL.out, HX.out])
  have HX2 := Lib.hid (show tryM r p = applyR r.refs (addL r.store p.objects) p.updates p.force by rw [HM.out, HX.out]; split; rfl; rename_i h; rw [HP.out, if_neg h])
  rw [ha] at Ha1
  rw [HX1.out, HX2.out, HX.out]
  clear ha HX HX1 HX2 HE HL HM
  generalize addL r.store p.objects = L at *
  by_cases hm : applyE r.refs L p.updates p.force = 0
  case neg =>
   have q : (applyE r.refs L p.updates p.force != 0) = true := by simpa using hm
   have Hnm := Lib.hid (show applyR r.refs L p.updates p.force = [] by rw [HP.out, if_neg hm])
   rw [if_neg hm]
   rw [Hnm.out] at Hm ⊢
   clear hm HP
   go_enter Tryz.func19, Tryz.ntmps19
   go_wp2_with fail
   refine Ha1.out.mono ?_
   rintro e w2 ⟨v2, rfl, hv2, hb2⟩
   obtain ⟨a2, c2, rfl⟩ := hv2.vshape
   have hR2 := hRn _ _ hR1 hb2
   have y13 := y1 _ hR2
   have z13 := z1 _ hR2
   have z23 := z2 _ hR2
   have Hm3 := Lib.hid (Hm.out _ _ (hRb _ hR2) (hv2.weaken fun _ _ => trivial))
   clear hv2 hb2 hR1
   go_wp2_with fail
   refine Hm3.out.mono ?_
   rintro e w4 ⟨v4, rfl, hv4, hb4⟩
   obtain ⟨⟨p4, c4⟩, rfl⟩ := hv4.shape
   have hR4 := hRn _ _ hR2 hb4
   clear hv4 hb4
   go_wp2_with fail
   go_ret3
   exact ⟨_, _, rfl, StoreV.nil _ _ _ _ (by omega), RefsV.nil _ _ _ _ (by omega), hRb _ hR4⟩
  case pos =>
   rw [if_pos hm, hm]
   rw [hm] at Hm
   clear hm HP
   go_enter Tryz.func19, Tryz.ntmps19
   go_wp2_with fail
   refine Ha1.out.mono ?_
   rintro e w2 ⟨v2, rfl, hv2, hb2⟩
   obtain ⟨a2, c2, rfl⟩ := hv2.vshape
   have hR2 := hRn _ _ hR1 hb2
   have y13 := y1 _ hR2
   have z13 := z1 _ hR2
   have z23 := z2 _ hR2
   have Hm3 := Lib.hid (Hm.out _ _ (hRb _ hR2) (hv2.weaken fun _ _ => trivial))
   have HV2 := Lib.hid hv2
   clear hv2 hb2 hR1
   go_wp2_with fail
   refine Hm3.out.mono ?_
   rintro e w4 ⟨v4, rfl, hv4, hb4⟩
   obtain ⟨⟨p4, c4⟩, rfl⟩ := hv4.shape
   have hR4 := hRn _ _ hR2 hb4
   have hs2 := (hRb _ hR2).size
   have HX := Lib.hid (And.intro ((HV2.out.below hb4).weaken (S' := (fun b => (S b ∨ S1 b ∨ S2 b) ∨ w.heap.size ≤ b)) (fun b hb => hb.elim (fun h => h.elim (fun h => .inl (.inl h)) (fun h => .inl (.inr (.inr h)))) (fun h => .inr (by simp only [World.size_alloc] at h; omega)))) (hv4.weaken (S' := (fun b => (S b ∨ S1 b ∨ S2 b) ∨ w.heap.size ≤ b)) (fun b hb => hb.elim (fun h => .inl (.inr (.inl h))) (fun h => .inr (by omega)))))
   clear hv4 hb4
   go_wp2_with fail
   go_ret3
   exact ⟨_, _, rfl, HX.out.1, HX.out.2, hRb _ hR4⟩
theorem tryOf_any (r : Rep) (p : Psh) (sv rv ov uv ov2 uv2 : Value) (S S1 S2 S3 : Nat → Prop) (w : World) (hs : StoreV S w sv r.store) (hr : RefsV S1 w rv r.refs) (ho : StoreV S2 w ov p.objects) (hu : MvsV S3 w uv p.updates)
  (h2 : (∃ a n c, ov2 = .slice a n c) ∧ ∃ a n c, uv2 = .slice a n c) :
  Calls Tryz.prog 19 #[.agg #[sv, rv, .int .i64 r.gen, .int .i64 r.phase, ov2, uv2, .bool r.pend.force], .agg #[ov, uv, .bool p.force]] w fun e w' => RetTry w w' e (tryL r p) (tryM r p) (tryE r p) :=
 (tryA_any r p sv rv ov uv ov2 uv2 S S1 S2 S3 w hs hr ho hu h2).mono fun _ _ h => h.e
end Go.Proofs.YtjdgpgfiomnjkaaGreatDoor
namespace Go.Proofs.YtjdgpgfiomnjkaaGreatDoor
open Go.RowKit
set_option linter.unusedVariables false
set_option linter.unusedSimpArgs false
set_option linter.unusedSectionVars false
variable [Ghost]
def hostR : Rep := ⟨shelfL, namesL, 7, 0, psh0⟩
def comeP : Psh := ⟨[⟨6, 3, [2, 5], tee⟩], [⟨⟨#[109, 97, 105, 110]⟩, 3, 6⟩], false⟩
structure RepIs (S : Nat → Prop) (w : World) (r : Rep) (sv rv ov uv : Value) : Prop where
 store : StoreV S w sv r.store
 refs : RefsV S w rv r.refs
 objs : StoreV S w ov r.pend.objects
 upds : MvsV S w uv r.pend.updates
 gen : I64 r.gen
 phase : I64 r.phase
theorem RepIs.below {S : Nat → Prop} {w w' : World} {r : Rep} {sv rv ov uv : Value} (h : RepIs S w r sv rv ov uv) (hb : Below w.heap.size w w') : RepIs S w' r sv rv ov uv :=
 ⟨h.store.below hb, h.refs.below hb, h.objs.below hb, h.upds.below hb, h.gen, h.phase⟩
theorem RepIs.weaken {S S' : Nat → Prop} {w : World} {r : Rep} {sv rv ov uv : Value} (h : RepIs S w r sv rv ov uv) (hs : ∀ b, S b → S' b) : RepIs S' w r sv rv ov uv :=
 ⟨h.store.weaken hs, h.refs.weaken hs, h.objs.weaken hs, h.upds.weaken hs, h.gen, h.phase⟩
def repV (r : Rep) (sv rv ov uv : Value) : Value := .agg #[sv, rv, .int .i64 r.gen, .int .i64 r.phase, ov, uv, .bool r.pend.force]
def pshV (p : Psh) (ov uv : Value) : Value := .agg #[ov, uv, .bool p.force]
def RetRep (w w' : World) (e : Ending) (r : Rep) : Prop := ∃ sv rv ov uv, e = .returned (repV r sv rv ov uv) ∧ RepIs (fun b => w.heap.size ≤ b) w' r sv rv ov uv ∧ Below w.heap.size w w'
def RetPsh (w w' : World) (e : Ending) (p : Psh) : Prop := ∃ ov uv, e = .returned (pshV p ov uv) ∧ StoreV (fun b => w.heap.size ≤ b) w' ov p.objects ∧ MvsV (fun b => w.heap.size ≤ b) w' uv p.updates ∧ Below w.heap.size w w'
def set7 (b : Nat) (v0 v1 v2 v3 v4 v5 v6 : Value) (w : World) : World := ((((((w.setCell ⟨b, 0, none⟩ v0).setCell ⟨b, 1, none⟩ v1).setCell ⟨b, 2, none⟩ v2).setCell ⟨b, 3, none⟩ v3).setCell ⟨b, 4, none⟩ v4).setCell ⟨b, 5, none⟩ v5).setCell ⟨b, 6, none⟩ v6
theorem set7_is {b : Nat} {v0 v1 v2 v3 v4 v5 v6 u0 u1 u2 u3 u4 u5 u6 : Value} {t : TypeId} {w : World} (h0 : w.heap[b]? = some (.cells #[u0, u1, u2, u3, u4, u5, u6] t (0, 0))) :
  (set7 b v0 v1 v2 v3 v4 v5 v6 w).heap[b]? = some (.cells #[v0, v1, v2, v3, v4, v5, v6] t (0, 0)) := by
 have s0 : (w.setCell ⟨b, 0, none⟩ v0).heap[b]? = some (.cells #[v0, u1, u2, u3, u4, u5, u6] t (0, 0)) := by have := block_setCell (j := 0) h0 v0; simpa using this
 have s1 : ((w.setCell ⟨b, 0, none⟩ v0).setCell ⟨b, 1, none⟩ v1).heap[b]? = some (.cells #[v0, v1, u2, u3, u4, u5, u6] t (0, 0)) := by have := block_setCell (j := 1) s0 v1; simpa using this
 have s2 : (((w.setCell ⟨b, 0, none⟩ v0).setCell ⟨b, 1, none⟩ v1).setCell ⟨b, 2, none⟩ v2).heap[b]? = some (.cells #[v0, v1, v2, u3, u4, u5, u6] t (0, 0)) := by have := block_setCell (j := 2) s1 v2; simpa using this
 have s3 : ((((w.setCell ⟨b, 0, none⟩ v0).setCell ⟨b, 1, none⟩ v1).setCell ⟨b, 2, none⟩ v2).setCell ⟨b, 3, none⟩ v3).heap[b]? = some (.cells #[v0, v1, v2, v3, u4, u5, u6] t (0, 0)) := by have := block_setCell (j := 3) s2 v3; simpa using this
 have s4 : (((((w.setCell ⟨b, 0, none⟩ v0).setCell ⟨b, 1, none⟩ v1).setCell ⟨b, 2, none⟩ v2).setCell ⟨b, 3, none⟩ v3).setCell ⟨b, 4, none⟩ v4).heap[b]? = some (.cells #[v0, v1, v2, v3, v4, u5, u6] t (0, 0)) := by have := block_setCell (j := 4) s3 v4; simpa using this
 have s5 : ((((((w.setCell ⟨b, 0, none⟩ v0).setCell ⟨b, 1, none⟩ v1).setCell ⟨b, 2, none⟩ v2).setCell ⟨b, 3, none⟩ v3).setCell ⟨b, 4, none⟩ v4).setCell ⟨b, 5, none⟩ v5).heap[b]? = some (.cells #[v0, v1, v2, v3, v4, v5, u6] t (0, 0)) := by have := block_setCell (j := 5) s4 v5; simpa using this
 have s6 : (((((((w.setCell ⟨b, 0, none⟩ v0).setCell ⟨b, 1, none⟩ v1).setCell ⟨b, 2, none⟩ v2).setCell ⟨b, 3, none⟩ v3).setCell ⟨b, 4, none⟩ v4).setCell ⟨b, 5, none⟩ v5).setCell ⟨b, 6, none⟩ v6).heap[b]? = some (.cells #[v0, v1, v2, v3, v4, v5, v6] t (0, 0)) := by have := block_setCell (j := 6) s5 v6; simpa using this
 exact s6
theorem set7_upd (b : Nat) (v0 v1 v2 v3 v4 v5 v6 : Value) (w : World) : Upd (fun x => x = b) w (set7 b v0 v1 v2 v3 v4 v5 v6 w) :=
 Upd.setCell (T := fun x => x = b) (Upd.setCell (T := fun x => x = b) (Upd.setCell (T := fun x => x = b) (Upd.setCell (T := fun x => x = b) (Upd.setCell (T := fun x => x = b) (Upd.setCell (T := fun x => x = b) (Upd.setCell (T := fun x => x = b) (Upd.refl (fun x => x = b) w) (fun _ => rfl) v0) (fun _ => rfl) v1) (fun _ => rfl) v2) (fun _ => rfl) v3) (fun _ => rfl) v4) (fun _ => rfl) v5) (fun _ => rfl) v6
theorem StoreV.upd' {T S : Nat → Prop} {w w' : World} {v : Value} {l : List Obj} (h : StoreV S w v l) (hu : Upd T w w') (hT : ∀ b, S b → ¬ T b) : StoreV S w' v l := by
 have := (h.lt).same (w' := w') fun b hb => hu.block b hb.2 (hT b hb.1)
 exact this.weaken fun b hb => hb.1
theorem RefsV.lt {S : Nat → Prop} {w : World} {v : Value} {l : List Rf} (h : RefsV S w v l) : RefsV (fun b => S b ∧ b < w.heap.size) w v l := by
 obtain ⟨⟨a, cap, hv, h1, h2, h3, h4⟩, h5⟩ := h
 refine ⟨⟨a, cap, hv, h1, h2, h3, fun hn => ?_⟩, h5⟩
 obtain ⟨b, off, ha, hS, hc⟩ := h4 hn
 exact ⟨b, off, ha, ⟨⟨hS.1, World.block_lt_of_cell? w _ (hc 0 hn 0 _ rfl)⟩, hS.2⟩, hc⟩
theorem RefsV.upd {T S : Nat → Prop} {w w' : World} {v : Value} {l : List Rf} (h : RefsV S w v l) (hu : Upd T w w') (hT : ∀ b, S b → ¬ T b) : RefsV S w' v l := by
 have := (h.lt).same (w' := w') fun b hb => hu.block b hb.2 (hT b hb.1)
 exact this.weaken fun b hb => hb.1
theorem MvsV.lt {S : Nat → Prop} {w : World} {v : Value} {l : List Mv} (h : MvsV S w v l) : MvsV (fun b => S b ∧ b < w.heap.size) w v l := by
 obtain ⟨⟨a, cap, hv, h1, h2, h3, h4⟩, h5⟩ := h
 refine ⟨⟨a, cap, hv, h1, h2, h3, fun hn => ?_⟩, h5⟩
 obtain ⟨b, off, ha, hS, hc⟩ := h4 hn
 exact ⟨b, off, ha, ⟨⟨hS.1, World.block_lt_of_cell? w _ (hc 0 hn 0 _ rfl)⟩, hS.2⟩, hc⟩
theorem MvsV.upd {T S : Nat → Prop} {w w' : World} {v : Value} {l : List Mv} (h : MvsV S w v l) (hu : Upd T w w') (hT : ∀ b, S b → ¬ T b) : MvsV S w' v l := by
 have := (h.lt).same (w' := w') fun b hb => hu.block b hb.2 (hT b hb.1)
 exact this.weaken fun b hb => hb.1
set_option maxRecDepth 100000 in
set_option maxHeartbeats 4000000 in
theorem host_any (w : World) : Calls Tryz.prog 52 #[] w fun e w' => RetRep w w' e hostR := by
 obtain ⟨R, hR, hR1, hy⟩ := cls_box w #[.slice none 0 0, .slice none 0 0, .int .i64 0, .int .i64 0, .slice none 0 0, .slice none 0 0, .bool false] 28
 have hRb := hR.below
 have hRn := hR.next
 clear hy
 go_enter Tryz.func52, Tryz.ntmps52
 go_wp2_with fail
 refine (shelf_any _).mono ?_
 rintro e w1 ⟨v1, rfl, hv1, hb1⟩
 obtain ⟨a1, c1, rfl⟩ := hv1.vshape
 have hR2 := hRn _ _ hR1 hb1
 have Hv1 := Lib.hid hv1
 have Hb1 := Lib.hid hb1
 clear hv1 hb1
 go_wp2_with fail
 refine (names_any _).mono ?_
 rintro e w2 ⟨v2, rfl, hv2, hb2⟩
 obtain ⟨⟨p2, c2⟩, rfl⟩ := hv2.shape
 have hR3 := hRn _ _ hR2 hb2
 have hblk : w2.heap[w.heap.size]? = some (.cells #[.slice none 0 0, .slice none 0 0, .int .i64 0, .int .i64 0, .slice none 0 0, .slice none 0 0, .bool false] 28 (0, 0)) :=
  (hb2.block _ (Nat.lt_of_lt_of_le (by simp) Hb1.out.size)).trans ((Hb1.out.block _ (by simp)).trans (heap_alloc_new w _))
 have g0 := block_cell (j := 0) hblk rfl
 have g1 := block_cell (j := 1) hblk rfl
 have g2 := block_cell (j := 2) hblk rfl
 have g3 := block_cell (j := 3) hblk rfl
 have g4 := block_cell (j := 4) hblk rfl
 have g5 := block_cell (j := 5) hblk rfl
 have g6 := block_cell (j := 6) hblk rfl
 have f0 := block_free (j := 0) hblk
 have f1 := block_free (j := 1) hblk
 have f2 := block_free (j := 2) hblk
 have f3 := block_free (j := 3) hblk
 have f4 := block_free (j := 4) hblk
 have f5 := block_free (j := 5) hblk
 have f6 := block_free (j := 6) hblk
 have Hv2 := Lib.hid hv2
 have Hb2 := Lib.hid hb2
 clear hv2 hb2
 go_wp2_with fail
 change bodyPost _ _ _ _ _ (set7 w.heap.size (.slice a1 shelfL.length c1) (.slice p2 namesL.length c2) (.int .i64 7) (.int .i64 0) (.slice none 0 0) (.slice none 0 0) (.bool false) w2)
 have hb7 := set7_is (v0 := .slice a1 shelfL.length c1) (v1 := .slice p2 namesL.length c2) (v2 := .int .i64 7) (v3 := .int .i64 0) (v4 := .slice none 0 0) (v5 := .slice none 0 0) (v6 := .bool false) hblk
 have hu7 := set7_upd w.heap.size (.slice a1 shelfL.length c1) (.slice p2 namesL.length c2) (.int .i64 7) (.int .i64 0) (.slice none 0 0) (.slice none 0 0) (.bool false) w2
 generalize set7 w.heap.size (.slice a1 shelfL.length c1) (.slice p2 namesL.length c2) (.int .i64 7) (.int .i64 0) (.slice none 0 0) (.slice none 0 0) (.bool false) w2 = w7 at *
 have k0 := block_cell (j := 0) hb7 rfl
 have k1 := block_cell (j := 1) hb7 rfl
 have k2 := block_cell (j := 2) hb7 rfl
 have k3 := block_cell (j := 3) hb7 rfl
 have k4 := block_cell (j := 4) hb7 rfl
 have k5 := block_cell (j := 5) hb7 rfl
 have k6 := block_cell (j := 6) hb7 rfl
 have hs1 := Hb1.out.size
 have hs2 := Hb2.out.size
 simp only [World.size_alloc] at hs1
 refine bodyPost_ret (v := repV hostR (.slice a1 shelfL.length c1) (.slice p2 namesL.length c2) (.slice none 0 0) (.slice none 0 0)) (by simp [results, Tryz.results52, go_sem]; simp [k0, k1, k2, k3, k4, k5, k6]; rfl) rfl ⟨_, _, _, _, rfl, ⟨?_, ?_, StoreV.nil _ _ _ _ (by omega), MvsV.nil _ _ _ _ (by omega), by unfold I64; decide, by unfold I64; decide⟩, ?_⟩
 ·exact ((Hv1.out.below Hb2.out).upd' hu7 (fun b hb e => by simp at hb; omega)).weaken fun b hb => by simp at hb; omega
 ·exact (Hv2.out.upd hu7 (fun b hb e => by omega)).weaken fun b hb => by omega
 ·exact (hRb _ hR3).trans (hu7.below (B := w.heap.size) (by omega) (fun b hb => by omega))
def set3 (b : Nat) (v0 v1 v2 : Value) (w : World) : World := ((w.setCell ⟨b, 0, none⟩ v0).setCell ⟨b, 1, none⟩ v1).setCell ⟨b, 2, none⟩ v2
theorem set3_is {b : Nat} {v0 v1 v2 u0 u1 u2 : Value} {t : TypeId} {w : World} (h0 : w.heap[b]? = some (.cells #[u0, u1, u2] t (0, 0))) :
  (set3 b v0 v1 v2 w).heap[b]? = some (.cells #[v0, v1, v2] t (0, 0)) := by
 have s0 : (w.setCell ⟨b, 0, none⟩ v0).heap[b]? = some (.cells #[v0, u1, u2] t (0, 0)) := by have := block_setCell (j := 0) h0 v0; simpa using this
 have s1 : ((w.setCell ⟨b, 0, none⟩ v0).setCell ⟨b, 1, none⟩ v1).heap[b]? = some (.cells #[v0, v1, u2] t (0, 0)) := by have := block_setCell (j := 1) s0 v1; simpa using this
 have s2 : (((w.setCell ⟨b, 0, none⟩ v0).setCell ⟨b, 1, none⟩ v1).setCell ⟨b, 2, none⟩ v2).heap[b]? = some (.cells #[v0, v1, v2] t (0, 0)) := by have := block_setCell (j := 2) s1 v2; simpa using this
 exact s2
theorem set3_upd (b : Nat) (v0 v1 v2 : Value) (w : World) : Upd (fun x => x = b) w (set3 b v0 v1 v2 w) :=
 Upd.setCell (T := fun x => x = b) (Upd.setCell (T := fun x => x = b) (Upd.setCell (T := fun x => x = b) (Upd.refl (fun x => x = b) w) (fun _ => rfl) v0) (fun _ => rfl) v1) (fun _ => rfl) v2
theorem mvs_new (w : World) (l : List Mv) (t : TypeId) (N : Nat) (hN : N = w.heap.size) (hl : l.length * 32 ≤ 140737488351232) (h : ∀ u ∈ l, I64 u.old ∧ I64 u.new ∧ u.name.size ≤ 140737488351232) :
  MvsV (fun b => b = N) (w.alloc (.cells (flat (fun i => mvCells (mv l i)) l.length).toArray t)) (.slice (some ⟨N, 0, none⟩) l.length l.length) l :=
 ⟨sl_new w _ 3 32 _ t N hN (fun _ _ => rfl) hl (by omega), h⟩
end Go.Proofs.YtjdgpgfiomnjkaaGreatDoor
