
/- Walks: pushes: what they read as; Check, Raw, Try and the reference's CheckPush, TryOf. -/
import Derived.Test.YtjkbaallfkjmhaaGreatUpdE
import Derived.Test.YtjkbaallfkjmhaaGreatRefB
import Derived.Test.YtjkbaallfkjmhaaGreatStoreLaw
namespace Go.Proofs.YtjkbaallfkjmhaaGreat
open Go.RowKit
set_option linter.unusedVariables false
set_option linter.unusedSimpArgs false

structure Psh where
  objects : List Obj
  updates : List Mv
  force : Bool
structure Rep where
  store : List Obj
  refs : List Rf
  gen : Int
  phase : Int
  pend : Psh
def psh0 : Psh := ⟨[], [], false⟩
def rep0 : Rep := ⟨[], [], 0, 0, psh0⟩

/-- F1 -/
def checkPsh (p : Psh) : Int := if 12 < p.objects.length then 2 else if eachE p.objects ≠ 0 then eachE p.objects else checkMvs p.updates
/-- what a push that is right makes of a replica -/
def tryE (r : Rep) (p : Psh) : Int := if addE r.store p.objects ≠ 0 then addE r.store p.objects else applyE r.refs (addL r.store p.objects) p.updates p.force
def tryL (r : Rep) (p : Psh) : List Obj := if tryE r p = 0 then addL r.store p.objects else []
def tryM (r : Rep) (p : Psh) : List Rf := if tryE r p = 0 then applyR r.refs (addL r.store p.objects) p.updates p.force else []

/-- behind two new blocks of cells, which nobody writes any more -/
theorem cls_two (w : World) (cs ds : Array Value) (t u : TypeId) : ∃ R : World → Prop, Cls w R ∧ In R ((w.alloc (.cells cs t)).alloc (.cells ds u)) ∧
    (∀ j v, cs[j]? = some v → ∀ x, In R x → x.cell? ⟨w.heap.size, j, none⟩ = some v) ∧ (∀ j v, ds[j]? = some v → ∀ x, In R x → x.cell? ⟨w.heap.size + 1, j, none⟩ = some v) := by
  have hb : Below w.heap.size w ((w.alloc (.cells cs t)).alloc (.cells ds u)) := ((Below.refl _ _).alloc (Nat.le_refl _) _).alloc (by simp) _
  refine ⟨_, cls_of w _ (w.heap.size + 2) (by omega) (by simp) hb, Below.refl _ _, fun j v hv x hx => ?_, fun j v hv x hx => ?_⟩
  · rw [Below.cell hx (p := ⟨w.heap.size, j, none⟩) (by simp)]
    rw [World.cell?_alloc_lt _ _ _ (by simp), World.cell?_alloc_at _ _ _ _ rfl]; exact hv
  · rw [Below.cell hx (p := ⟨w.heap.size + 1, j, none⟩) (by simp)]
    rw [World.cell?_alloc_at _ _ _ _ (by simp)]; exact hv

/-- the cells of a replica -/
def repCells (r : Rep) (sv rv ov uv : Value) : Array Value := #[sv, rv, .int .i64 r.gen, .int .i64 r.phase, ov, uv, .bool r.pend.force]

theorem checkPsh_zero {p : Psh} (h : checkPsh p = 0) : p.objects.length ≤ 12 ∧ eachE p.objects = 0 ∧ checkMvs p.updates = 0 := by
  unfold checkPsh at h
  by_cases h1 : 12 < p.objects.length
  · rw [if_pos h1] at h; exact absurd h (by decide)
  · rw [if_neg h1] at h
    by_cases h2 : eachE p.objects ≠ 0
    · rw [if_pos h2] at h; exact absurd h h2
    · rw [if_neg h2] at h; exact ⟨by omega, by simpa using h2, h⟩

set_option maxRecDepth 100000 in
set_option maxHeartbeats 2000000 in
theorem pushCheck_any (p : Psh) (ov uv : Value) (S S' : Nat → Prop) (w : World) (ho : StoreV S w ov p.objects) (hu : MvsV S' w uv p.updates) :
    Calls Tryz.prog 26 #[.agg #[ov, uv, .bool p.force]] w fun e w' => e = .returned (.int .i64 (checkPsh p)) ∧ Below w.heap.size w w' := by
  have HE := Lib.hid (fun x (hx : Below w.heap.size w x) => each_any (checks_does p.objects x) ov S (ho.below hx) (Below.refl _ _))
  have HM := Lib.hid (fun x (hx : Below w.heap.size w x) => updCheck_any p.updates _ _ x (hu.below hx))
  have HW := Lib.hid (show checkPsh p = if 12 < p.objects.length then 2 else if eachE p.objects ≠ 0 then eachE p.objects else checkMvs p.updates from rfl)
  have hee : scan (fun k => checkObj (obj p.objects k)) p.objects.length = eachE p.objects := rfl
  rw [hee] at HE
  obtain ⟨oa, oc, rfl⟩ := ho.vshape
  obtain ⟨⟨ua, uc⟩, rfl⟩ := hu.shape
  obtain ⟨R, hR, hR1, hy⟩ := cls_box w #[.slice oa p.objects.length oc, .slice ua p.updates.length uc, .bool p.force] 26
  have y0 := hy 0 _ rfl
  have y1 := hy 1 _ rfl
  have hRb := hR.below
  have hRn := hR.next
  have y01 := y0 _ hR1
  clear hy ho hu hee
  generalize eachE p.objects = ee at *
  generalize checkMvs p.updates = mm at *
  by_cases h12 : 12 < p.objects.length
  · have hd : decide ((12 : Int) < (p.objects.length : Int)) = true := by simp; omega
    rw [HW.out, if_pos h12]
    go_enter Tryz.func26, Tryz.ntmps26
    go_wp2_with fail
    go_ret
    exact ⟨rfl, hRb _ hR1⟩
  · have hd : decide ((12 : Int) < (p.objects.length : Int)) = false := by simp; omega
    rw [HW.out, if_neg h12]
    have HE2 := Lib.hid (HE.out _ (hRb _ hR1))
    clear h12 HW HE
    by_cases he : ee = 0
    · rw [if_neg (by simp [he])]
      rw [he] at HE2
      clear he
      go_enter Tryz.func26, Tryz.ntmps26
      go_wp2_with fail
      refine HE2.out.mono ?_
      rintro e w2 ⟨rfl, hb2, _⟩
      have hR2 := hRn _ _ hR1 hb2
      have y12 := y1 _ hR2
      clear hb2 hR1 y01
      go_wp2_with fail
      refine (HM.out _ (hRb _ hR2)).mono ?_
      rintro e w3 ⟨rfl, hb3⟩
      have hR3 := hRn _ _ hR2 hb3
      go_wp2_with fail
      go_ret
      exact ⟨rfl, hRb _ hR3⟩
    · rw [if_pos he]
      have q : (ee != 0) = true := by simpa using he
      clear he
      go_enter Tryz.func26, Tryz.ntmps26
      go_wp2_with fail
      refine HE2.out.mono ?_
      rintro e w2 ⟨rfl, hb2, _⟩
      have hR2 := hRn _ _ hR1 hb2
      clear hb2 hR1 y01
      go_wp2_with fail
      go_ret
      exact ⟨rfl, hRb _ hR2⟩

/-- three come back -/
def RetTry (w w' : World) (e : Ending) (l : List Obj) (m : List Rf) (c : Int) : Prop :=
  ∃ v u, e = .returned (.tuple #[v, u, .int .i64 c]) ∧ StoreV (fun _ => True) w' v l ∧ RefsV (fun _ => True) w' u m ∧ Below w.heap.size w w'

theorem tryE_of {r : Rep} {p : Psh} (hp : checkMvs p.updates = 0) (ha : addE r.store p.objects = 0) : tryE r p = if rightErr r.refs (addL r.store p.objects) ≠ 0 then rightErr r.refs (addL r.store p.objects) else movedE r.refs (addL r.store p.objects) p.updates p.force := by
  have hc := (add_ok ha).whole
  have hr : checkRefs r.refs (addL r.store p.objects) = rightErr r.refs (addL r.store p.objects) := by unfold checkRefs; rw [if_neg (by simp [hc])]
  unfold tryE applyE
  rw [if_neg (by simp [ha]), hr]
  by_cases h : rightErr r.refs (addL r.store p.objects) = 0
  · rw [if_neg (by simp [h]), if_neg (by simp [hp]), if_neg (by simp [h])]
  · rw [if_pos h, if_pos h]

theorem ret_tup3 {v u : Value} {a b : Int} (h : a = b) : Ending.returned (.tuple #[v, u, .int .i64 a]) = .returned (.tuple #[v, u, .int .i64 b]) := by rw [h]

end Go.Proofs.YtjkbaallfkjmhaaGreat
