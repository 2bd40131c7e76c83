
/- Walks: pushes: what they read as; Check, Raw, Try and the reference's CheckPush, TryOf. -/
import Derived.Test.YtjkbaallfkjmhaaUpdE
import Derived.Test.YtjkbaallfkjmhaaRefB
import Derived.Test.YtjkbaallfkjmhaaStoreLaw
namespace Go.Proofs.Ytjkbaallfkjmhaa
open Go.RowKit
set_option linter.unusedVariables false
set_option linter.unusedSimpArgs false

structure Psh where
  objects : List Obj
  updates : List Mv
  force : Bool
structure Rep where
  store : List Obj
  refs : List Rf
  gen : Int
  phase : Int
  pend : Psh
def psh0 : Psh := ⟨[], [], false⟩
def rep0 : Rep := ⟨[], [], 0, 0, psh0⟩

/-- F1 -/
def checkPsh (p : Psh) : Int := if 12 < p.objects.length then 2 else if eachE p.objects ≠ 0 then eachE p.objects else checkMvs p.updates
/-- what a push that is right makes of a replica -/
def tryE (r : Rep) (p : Psh) : Int := if addE r.store p.objects ≠ 0 then addE r.store p.objects else applyE r.refs (addL r.store p.objects) p.updates p.force
def tryL (r : Rep) (p : Psh) : List Obj := if tryE r p = 0 then addL r.store p.objects else []
def tryM (r : Rep) (p : Psh) : List Rf := if tryE r p = 0 then applyR r.refs (addL r.store p.objects) p.updates p.force else []

/-- behind two new blocks of cells, which nobody writes any more -/
theorem cls_two (w : World) (cs ds : Array Value) (t u : TypeId) : ∃ R : World → Prop, Cls w R ∧ In R ((w.alloc (.cells cs t)).alloc (.cells ds u)) ∧
    (∀ j v, cs[j]? = some v → ∀ x, In R x → x.cell? ⟨w.heap.size, j, none⟩ = some v) ∧ (∀ j v, ds[j]? = some v → ∀ x, In R x → x.cell? ⟨w.heap.size + 1, j, none⟩ = some v) := by
  have hb : Below w.heap.size w ((w.alloc (.cells cs t)).alloc (.cells ds u)) := ((Below.refl _ _).alloc (Nat.le_refl _) _).alloc (by simp) _
  refine ⟨_, cls_of w _ (w.heap.size + 2) (by omega) (by simp) hb, Below.refl _ _, fun j v hv x hx => ?_, fun j v hv x hx => ?_⟩
  · rw [Below.cell hx (p := ⟨w.heap.size, j, none⟩) (by simp)]
    rw [World.cell?_alloc_lt _ _ _ (by simp), World.cell?_alloc_at _ _ _ _ rfl]; exact hv
  · rw [Below.cell hx (p := ⟨w.heap.size + 1, j, none⟩) (by simp)]
    rw [World.cell?_alloc_at _ _ _ _ (by simp)]; exact hv

/-- the cells of a replica -/
def repCells (r : Rep) (sv rv ov uv : Value) : Array Value := #[sv, rv, .int .i64 r.gen, .int .i64 r.phase, ov, uv, .bool r.pend.force]

theorem checkPsh_zero {p : Psh} (h : checkPsh p = 0) : p.objects.length ≤ 12 ∧ eachE p.objects = 0 ∧ checkMvs p.updates = 0 := by
  unfold checkPsh at h
  by_cases h1 : 12 < p.objects.length
  · rw [if_pos h1] at h; exact absurd h (by decide)
  · rw [if_neg h1] at h
    by_cases h2 : eachE p.objects ≠ 0
    · rw [if_pos h2] at h; exact absurd h h2
    · rw [if_neg h2] at h; exact ⟨by omega, by simpa using h2, h⟩

set_option maxRecDepth 100000 in
set_option maxHeartbeats 2000000 in
theorem pushCheck_any (p : Psh) (ov uv : Value) (S S' : Nat → Prop) (w : World) (ho : StoreV S w ov p.objects) (hu : MvsV S' w uv p.updates) :
    Calls Try.prog 49 #[.agg #[ov, uv, .bool p.force]] w fun e w' => e = .returned (.int .i64 (checkPsh p)) ∧ Below w.heap.size w w' := by
  have HE := Lib.hid (fun x (hx : Below w.heap.size w x) => each_any (checks_does p.objects x) ov S (ho.below hx) (Below.refl _ _))
  have HM := Lib.hid (fun x (hx : Below w.heap.size w x) => updCheck_any p.updates _ _ x (hu.below hx))
  have HW := Lib.hid (show checkPsh p = if 12 < p.objects.length then 2 else if eachE p.objects ≠ 0 then eachE p.objects else checkMvs p.updates from rfl)
  have hee : scan (fun k => checkObj (obj p.objects k)) p.objects.length = eachE p.objects := rfl
  rw [hee] at HE
  obtain ⟨oa, oc, rfl⟩ := ho.vshape
  obtain ⟨⟨ua, uc⟩, rfl⟩ := hu.shape
  obtain ⟨R, hR, hR1, hy⟩ := cls_box w #[.slice oa p.objects.length oc, .slice ua p.updates.length uc, .bool p.force] 26
  have y0 := hy 0 _ rfl
  have y1 := hy 1 _ rfl
  have hRb := hR.below
  have hRn := hR.next
  have y01 := y0 _ hR1
  clear hy ho hu hee
  generalize eachE p.objects = ee at *
  generalize checkMvs p.updates = mm at *
  by_cases h12 : 12 < p.objects.length
  · have hd : decide ((12 : Int) < (p.objects.length : Int)) = true := by simp; omega
    rw [HW.out, if_pos h12]
    go_enter Try.func49, Try.ntmps49
    go_wp2_with fail
    go_ret
    exact ⟨rfl, hRb _ hR1⟩
  · have hd : decide ((12 : Int) < (p.objects.length : Int)) = false := by simp; omega
    rw [HW.out, if_neg h12]
    have HE2 := Lib.hid (HE.out _ (hRb _ hR1))
    clear h12 HW HE
    by_cases he : ee = 0
    · rw [if_neg (by simp [he])]
      rw [he] at HE2
      clear he
      go_enter Try.func49, Try.ntmps49
      go_wp2_with fail
      refine HE2.out.mono ?_
      rintro e w2 ⟨rfl, hb2, _⟩
      have hR2 := hRn _ _ hR1 hb2
      have y12 := y1 _ hR2
      clear hb2 hR1 y01
      go_wp2_with fail
      refine (HM.out _ (hRb _ hR2)).mono ?_
      rintro e w3 ⟨rfl, hb3⟩
      have hR3 := hRn _ _ hR2 hb3
      go_wp2_with fail
      go_ret
      exact ⟨rfl, hRb _ hR3⟩
    · rw [if_pos he]
      have q : (ee != 0) = true := by simpa using he
      clear he
      go_enter Try.func49, Try.ntmps49
      go_wp2_with fail
      refine HE2.out.mono ?_
      rintro e w2 ⟨rfl, hb2, _⟩
      have hR2 := hRn _ _ hR1 hb2
      clear hb2 hR1 y01
      go_wp2_with fail
      go_ret
      exact ⟨rfl, hRb _ hR2⟩

set_option maxRecDepth 100000 in
set_option maxHeartbeats 2000000 in
theorem checkPush_any (p : Psh) (ov uv : Value) (S S' : Nat → Prop) (w : World) (ho : StoreV S w ov p.objects) (hu : MvsV S' w uv p.updates) :
    Calls Try.prog 39 #[.agg #[ov, uv, .bool p.force]] w fun e w' => e = .returned (.int .i64 (checkPsh p)) ∧ Below w.heap.size w w' := by
  have ho' := ho
  have HM := Lib.hid (fun x (hx : Below w.heap.size w x) => checkUpdates_any p.updates _ _ x (hu.below hx))
  have HW := Lib.hid (show checkPsh p = if 12 < p.objects.length then 2 else if eachE p.objects ≠ 0 then eachE p.objects else checkMvs p.updates from rfl)
  have HS := Lib.hid (show eachE p.objects = scan (fun k => checkObj (obj p.objects k)) p.objects.length from rfl)
  obtain ⟨oa, n, oc, la, ln, lc, HN, rfl, h1, h2, h3, h4, h5⟩ := ho.open
  obtain ⟨⟨ua, uc⟩, rfl⟩ := hu.shape
  obtain ⟨R, hR, hR1, hy⟩ := cls_box w #[.slice oa n oc, .slice ua p.updates.length uc, .bool p.force] 26
  have y0 := hy 0 _ rfl
  have y1 := hy 1 _ rfl
  have hRb := hR.below
  have hRn := hR.next
  have Hn := Lib.hid HN.out.1
  have y01 := y0 _ hR1
  clear hy ho hu
  by_cases h12 : 12 < p.objects.length
  · have hd : decide ((12 : Int) < (n : Int)) = true := by have := Hn.out; simp; omega
    rw [HW.out, if_pos h12]
    go_enter Try.func39, Try.ntmps39
    go_wp2_with fail
    go_ret
    exact ⟨rfl, hRb _ hR1⟩
  · have hd : decide ((12 : Int) < (n : Int)) = false := by have := Hn.out; simp; omega
    have HG := Lib.hid (fun (h : scan (fun k => checkObj (obj p.objects k)) n = 0) => show checkPsh p = checkMvs p.updates by
      rw [HW.out, if_neg h12, HS.out, ← Hn.out, if_neg (by simp [h])])
    have HB := Lib.hid (fun e (h : scan (fun k => checkObj (obj p.objects k)) n = e) (he : e ≠ 0) => show checkPsh p = e by
      rw [HW.out, if_neg h12, HS.out, ← Hn.out, h, if_pos he])
    generalize checkPsh p = cp at *
    generalize checkMvs p.updates = mm at *
    clear h12 HW HS
    go_enter Try.func39, Try.ntmps39
    go_wp2_with fail
    go_loopw [3] (fun i wr => ∃ k : Nat, k ≤ n ∧ i = .int .i64 k ∧ Hid (scan (fun k => checkObj (obj p.objects k)) k = 0) ∧ In R wr) (fun i _ => n - (intOf i).toNat)
    case atStart => exact ⟨0, by omega, rfl, rfl, hR1⟩
    case round =>
      obtain ⟨k, hk, rfl, Hs, hRw⟩ := hrel
      clear hR1 y01
      have y0w := y0 _ hRw
      have y1w := y1 _ hRw
      by_cases hlt : k < n
      · obtain ⟨b, off, rfl, hb, k0, k1, k2, k3⟩ := h4 (by omega)
        have x0 := k0 k wr hlt (hRb _ hRw)
        have x1 := k1 k wr hlt (hRb _ hRw)
        have x2 := k2 k wr hlt (hRb _ hRw)
        have x3 := k3 k wr hlt (hRb _ hRw)
        have Hc := Lib.hid (checkObject_any (obj p.objects k) _ _ wr ((h5 k hlt).below (hRb _ hRw)))
        have hi1 : (0 : Int) ≤ (k : Int) := by omega
        have hi2 : (k : Int) < (n : Int) := by omega
        clear h4 h5 k0 k1 k2 k3
        by_cases he : checkObj (obj p.objects k) = 0
        · have Hs2 := Lib.hid (scan_next Hs.out he)
          rw [he] at Hc
          clear he
          go_wp2_with fail
          refine Hc.out.mono ?_
          rintro e w2 ⟨rfl, hb2⟩
          have hR2 := hRn _ _ hRw hb2
          clear hb2
          go_wp2_with fail
          go_roundw
          case rel => exact ⟨k + 1, by omega, by go_num, Hs2.out, hR2⟩
          case measure => simp [intOf]; omega
        · have Hs2 := Lib.hid (show scan (fun k => checkObj (obj p.objects k)) n = checkObj (obj p.objects k) from scan_hit Hs.out he hlt)
          have q : (checkObj (obj p.objects k) != 0) = true := by simpa using he
          have He := Lib.hid (HB.out _ Hs2.out he)
          clear he
          go_wp2_with fail
          refine Hc.out.mono ?_
          rintro e w2 ⟨rfl, hb2⟩
          have hR2 := hRn _ _ hRw hb2
          clear hb2
          go_wp2_with fail
          go_ret
          exact ⟨ret_int He.out.symm, hRb _ hR2⟩
      · obtain rfl : k = n := by omega
        have Hs2 := Lib.hid (HG.out Hs.out)
        go_wp2_with fail
        refine (HM.out _ (hRb _ hRw)).mono ?_
        rintro e w3 ⟨rfl, hb3⟩
        have hR3 := hRn _ _ hRw hb3
        go_wp2_with fail
        go_ret
        exact ⟨ret_int Hs2.out.symm, hRb _ hR3⟩

/-- three come back -/
def RetTry (w w' : World) (e : Ending) (l : List Obj) (m : List Rf) (c : Int) : Prop :=
  ∃ v u, e = .returned (.tuple #[v, u, .int .i64 c]) ∧ StoreV (fun _ => True) w' v l ∧ RefsV (fun _ => True) w' u m ∧ Below w.heap.size w w'

theorem tryE_of {r : Rep} {p : Psh} (hp : checkMvs p.updates = 0) (ha : addE r.store p.objects = 0) : tryE r p = if rightErr r.refs (addL r.store p.objects) ≠ 0 then rightErr r.refs (addL r.store p.objects) else movedE r.refs (addL r.store p.objects) p.updates p.force := by
  have hc := (add_ok ha).whole
  have hr : checkRefs r.refs (addL r.store p.objects) = rightErr r.refs (addL r.store p.objects) := by unfold checkRefs; rw [if_neg (by simp [hc])]
  unfold tryE applyE
  rw [if_neg (by simp [ha]), hr]
  by_cases h : rightErr r.refs (addL r.store p.objects) = 0
  · rw [if_neg (by simp [h]), if_neg (by simp [hp]), if_neg (by simp [h])]
  · rw [if_pos h, if_pos h]

theorem ret_tup3 {v u : Value} {a b : Int} (h : a = b) : Ending.returned (.tuple #[v, u, .int .i64 a]) = .returned (.tuple #[v, u, .int .i64 b]) := by rw [h]

end Go.Proofs.Ytjkbaallfkjmhaa
