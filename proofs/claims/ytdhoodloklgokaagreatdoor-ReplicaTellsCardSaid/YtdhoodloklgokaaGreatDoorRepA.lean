
/- RepA: RepA, RepW. -/
import Derived.Test.YtdhoodloklgokaaGreatDoorRepV
import Derived.Test.YtdhoodloklgokaaGreatDoorDiffD
import Derived.Test.YtdhoodloklgokaaGreatDoorRowR
/- RepA: walks of replicas: Check, CheckReplica, SamePush, SameReplica, replicaIs. -/
namespace Go.Proofs.YtdhoodloklgokaaGreatDoor
open Go.RowKit
set_option linter.unusedVariables false
set_option linter.unusedSimpArgs false

def emptyB (p : Psh) : Bool := decide (p.objects.length = 0) && decide (p.updates.length = 0) && !p.force
/-- H1 -/
def repCheck (r : Rep) : Int := if checkRefs r.refs r.store ≠ 0 then checkRefs r.refs r.store else if within r.gen 0 999 = false then 3 else if within r.phase 0 2 = false then 7 else if r.phase ≠ 0 then checkPsh r.pend else if emptyB r.pend = true then 0 else 1
def samePsh (a b : Psh) : Bool := sameStore a.objects b.objects && sameMvs a.updates b.updates && (a.force == b.force)
theorem samePsh_iff (a b : Psh) : samePsh a b = true ↔ a = b := by
  unfold samePsh
  rw [Bool.and_eq_true, Bool.and_eq_true, sameStore_iff, sameMvs_iff, beq_iff_eq]
  constructor
  · rintro ⟨⟨h1, h2⟩, h3⟩; cases a; cases b; simp_all
  · rintro rfl; exact ⟨⟨rfl, rfl⟩, rfl⟩
theorem samePsh_none (p : Psh) : samePsh p psh0 = emptyB p := by
  rw [Bool.eq_iff_iff, samePsh_iff]
  unfold emptyB
  obtain ⟨l, us, f⟩ := p
  cases f <;> simp [psh0, List.length_eq_zero_iff]
def sameRep (a b : Rep) : Bool := sameStore a.store b.store && sameRefs a.refs b.refs && (a.gen == b.gen) && (a.phase == b.phase) && samePsh a.pend b.pend
theorem sameRep_iff (a b : Rep) : sameRep a b = true ↔ a = b := by
  unfold sameRep
  rw [Bool.and_eq_true, Bool.and_eq_true, Bool.and_eq_true, Bool.and_eq_true, sameStore_iff, sameRefs_iff, beq_iff_eq, beq_iff_eq, samePsh_iff]
  constructor
  · rintro ⟨⟨⟨⟨h1, h2⟩, h3⟩, h4⟩, h5⟩; cases a; cases b; simp_all
  · rintro rfl; exact ⟨⟨⟨⟨rfl, rfl⟩, rfl⟩, rfl⟩, rfl⟩

set_option maxRecDepth 100000 in
set_option maxHeartbeats 4000000 in
theorem repCheck_any (r : Rep) (sv rv ov uv : Value) (S : Nat → Prop) (w : World) (h : RepIs S w r sv rv ov uv) :
    Calls Tryz.prog 56 #[repV r sv rv ov uv] w fun e w' => e = .returned (.int .i64 (repCheck r)) ∧ Below w.heap.size w w' := by
  have HR := Lib.hid (show repCheck r = if checkRefs r.refs r.store ≠ 0 then checkRefs r.refs r.store else if within r.gen 0 999 = false then 3 else if within r.phase 0 2 = false then 7 else if r.phase ≠ 0 then checkPsh r.pend else if emptyB r.pend = true then 0 else 1 from rfl)
  have H := Lib.hid h
  obtain ⟨sa, sc, rfl⟩ := h.store.vshape
  obtain ⟨⟨ra, rc⟩, rfl⟩ := h.refs.shape
  obtain ⟨oa, oc, rfl⟩ := h.objs.vshape
  obtain ⟨⟨ua, uc⟩, rfl⟩ := h.upds.shape
  clear h
  simp only [repV]
  obtain ⟨Q, hQ, hQ1, hy⟩ := cls_box w #[.slice sa r.store.length sc, .slice ra r.refs.length rc, .int .i64 r.gen, .int .i64 r.phase, .slice oa r.pend.objects.length oc, .slice ua r.pend.updates.length uc, .bool r.pend.force] 28
  have y0 := hy 0 _ rfl
  have y1 := hy 1 _ rfl
  have y2 := hy 2 _ rfl
  have y3 := hy 3 _ rfl
  have y4 := hy 4 _ rfl
  have y5 := hy 5 _ rfl
  have y6 := hy 6 _ rfl
  have hQb := hQ.below
  have hQn := hQ.next
  have HC := Lib.hid (fun x (hx : In Q x) => refsCheck_any r.refs r.store _ _ _ _ x (H.out.refs.below (hQb _ hx)) (H.out.store.below (hQb _ hx)))
  have HP := Lib.hid (fun x (hx : In Q x) => pushCheck_any r.pend _ _ _ _ x (H.out.objs.below (hQb _ hx)) (H.out.upds.below (hQb _ hx)))
  clear hy
  have y01 := y0 _ hQ1
  have y11 := y1 _ hQ1
  by_cases e1 : checkRefs r.refs r.store = 0
  case neg =>
    have HF := Lib.hid (show repCheck r = checkRefs r.refs r.store by rw [HR.out, if_pos e1])
    have hq : (checkRefs r.refs r.store != 0) = true := by simpa using e1
    clear e1 HR
    generalize checkRefs r.refs r.store = c at *
    go_enter Tryz.func56, Tryz.ntmps56
    go_wp2_with fail
    refine (HC.out _ hQ1).mono ?_
    rintro e w1 ⟨rfl, hb1⟩
    have hQ2 := hQn _ _ hQ1 hb1
    clear hb1 y01 y11 hQ1
    go_wp2_with fail
    go_ret
    exact ⟨ret_int HF.out.symm, hQb _ hQ2⟩
  rw [if_neg (by simpa using e1)] at HR
  rw [e1] at HC
  clear e1
  by_cases egenlo : r.gen < 0
  case pos =>
    have HF := Lib.hid (show repCheck r = 3 by rw [HR.out, if_pos (by unfold within; simp; omega)])
    have hd : decide (r.gen < 0) = true := decide_eq_true egenlo
    clear HR
    go_enter Tryz.func56, Tryz.ntmps56
    go_wp2_with fail
    refine (HC.out _ hQ1).mono ?_
    rintro e w1 ⟨rfl, hb1⟩
    have hQ2 := hQn _ _ hQ1 hb1
    have y22 := y2 _ hQ2
    have y32 := y3 _ hQ2
    have y42 := y4 _ hQ2
    have y52 := y5 _ hQ2
    have y62 := y6 _ hQ2
    clear hb1 y01 y11 hQ1
    go_wp2_with fail
    go_ret
    exact ⟨ret_int HF.out.symm, hQb _ hQ2⟩
  by_cases egenhi : 999 < r.gen
  case pos =>
    have HF := Lib.hid (show repCheck r = 3 by rw [HR.out, if_pos (by unfold within; simp; omega)])
    have hd : decide (r.gen < 0) = false := decide_eq_false egenlo
    have hd2 : decide (999 < r.gen) = true := decide_eq_true egenhi
    clear HR
    go_enter Tryz.func56, Tryz.ntmps56
    go_wp2_with fail
    refine (HC.out _ hQ1).mono ?_
    rintro e w1 ⟨rfl, hb1⟩
    have hQ2 := hQn _ _ hQ1 hb1
    have y22 := y2 _ hQ2
    have y32 := y3 _ hQ2
    have y42 := y4 _ hQ2
    have y52 := y5 _ hQ2
    have y62 := y6 _ hQ2
    clear hb1 y01 y11 hQ1
    go_wp2_with fail
    go_ret
    exact ⟨ret_int HF.out.symm, hQb _ hQ2⟩
  rw [if_neg (by unfold within; simp; omega)] at HR
  have hg1 : decide (r.gen < 0) = false := decide_eq_false egenlo
  have hg2 : decide (999 < r.gen) = false := decide_eq_false egenhi
  by_cases ephaselo : r.phase < 0
  case pos =>
    have HF := Lib.hid (show repCheck r = 7 by rw [HR.out, if_pos (by unfold within; simp; omega)])
    have hd : decide (r.phase < 0) = true := decide_eq_true ephaselo
    clear HR
    go_enter Tryz.func56, Tryz.ntmps56
    go_wp2_with fail
    refine (HC.out _ hQ1).mono ?_
    rintro e w1 ⟨rfl, hb1⟩
    have hQ2 := hQn _ _ hQ1 hb1
    have y22 := y2 _ hQ2
    have y32 := y3 _ hQ2
    have y42 := y4 _ hQ2
    have y52 := y5 _ hQ2
    have y62 := y6 _ hQ2
    clear hb1 y01 y11 hQ1
    go_wp2_with fail
    go_ret
    exact ⟨ret_int HF.out.symm, hQb _ hQ2⟩
  by_cases ephasehi : 2 < r.phase
  case pos =>
    have HF := Lib.hid (show repCheck r = 7 by rw [HR.out, if_pos (by unfold within; simp; omega)])
    have hd : decide (r.phase < 0) = false := decide_eq_false ephaselo
    have hd2 : decide (2 < r.phase) = true := decide_eq_true ephasehi
    clear HR
    go_enter Tryz.func56, Tryz.ntmps56
    go_wp2_with fail
    refine (HC.out _ hQ1).mono ?_
    rintro e w1 ⟨rfl, hb1⟩
    have hQ2 := hQn _ _ hQ1 hb1
    have y22 := y2 _ hQ2
    have y32 := y3 _ hQ2
    have y42 := y4 _ hQ2
    have y52 := y5 _ hQ2
    have y62 := y6 _ hQ2
    clear hb1 y01 y11 hQ1
    go_wp2_with fail
    go_ret
    exact ⟨ret_int HF.out.symm, hQb _ hQ2⟩
  rw [if_neg (by unfold within; simp; omega)] at HR
  have hp1 : decide (r.phase < 0) = false := decide_eq_false ephaselo
  have hp2 : decide (2 < r.phase) = false := decide_eq_false ephasehi
  by_cases e3 : r.phase = 0
  case neg =>
    have HF := Lib.hid (show repCheck r = checkPsh r.pend by rw [HR.out, if_pos e3])
    have hq : (r.phase != 0) = true := by simpa using e3
    have hd : decide (0 < r.phase) = true := decide_eq_true (by omega)
    clear HR e3
    go_enter Tryz.func56, Tryz.ntmps56
    go_wp2_with fail
    refine (HC.out _ hQ1).mono ?_
    rintro e w1 ⟨rfl, hb1⟩
    have hQ2 := hQn _ _ hQ1 hb1
    have y22 := y2 _ hQ2
    have y32 := y3 _ hQ2
    have y42 := y4 _ hQ2
    have y52 := y5 _ hQ2
    have y62 := y6 _ hQ2
    clear hb1 y01 y11 hQ1
    go_wp2_with fail
    refine (HP.out _ hQ2).mono ?_
    rintro e w3 ⟨rfl, hb3⟩
    have hQ3 := hQn _ _ hQ2 hb3
    go_wp2_with fail
    go_ret
    exact ⟨ret_int HF.out.symm, hQb _ hQ3⟩
  rw [if_neg (by simpa using e3)] at HR
  have hq : (r.phase != 0) = false := by simpa using e3
  have hd : decide (0 < r.phase) = false := decide_eq_false (by omega)
  clear e3 HP
  generalize hnp : r.pend.objects.length = np at *
  generalize hnu : r.pend.updates.length = nu at *
  by_cases f1 : np = 0
  case neg =>
    have HF := Lib.hid (show repCheck r = 1 by rw [HR.out, if_neg (by unfold emptyB; rw [hnp, hnu]; simp; omega)])
    clear HR
    go_enter Tryz.func56, Tryz.ntmps56
    go_wp2_with fail
    refine (HC.out _ hQ1).mono ?_
    rintro e w1 ⟨rfl, hb1⟩
    have hQ2 := hQn _ _ hQ1 hb1
    have y22 := y2 _ hQ2
    have y32 := y3 _ hQ2
    have y42 := y4 _ hQ2
    have y52 := y5 _ hQ2
    have y62 := y6 _ hQ2
    clear hb1 y01 y11 hQ1
    go_wp2_with fail
    go_ret
    exact ⟨ret_int HF.out.symm, hQb _ hQ2⟩
  subst f1
  by_cases f2 : nu = 0
  case neg =>
    have HF := Lib.hid (show repCheck r = 1 by rw [HR.out, if_neg (by unfold emptyB; rw [hnp, hnu]; simp; omega)])
    clear HR
    go_enter Tryz.func56, Tryz.ntmps56
    go_wp2_with fail
    refine (HC.out _ hQ1).mono ?_
    rintro e w1 ⟨rfl, hb1⟩
    have hQ2 := hQn _ _ hQ1 hb1
    have y22 := y2 _ hQ2
    have y32 := y3 _ hQ2
    have y42 := y4 _ hQ2
    have y52 := y5 _ hQ2
    have y62 := y6 _ hQ2
    clear hb1 y01 y11 hQ1
    go_wp2_with fail
    go_ret
    exact ⟨ret_int HF.out.symm, hQb _ hQ2⟩
  subst f2
  cases f3 : r.pend.force
  · have HF := Lib.hid (show repCheck r = 0 by rw [HR.out]; unfold emptyB; rw [hnp, hnu, f3]; simp)
    rw [f3] at y6 hQ1 y01 y11
    clear HR
    go_enter Tryz.func56, Tryz.ntmps56
    go_wp2_with fail
    refine (HC.out _ hQ1).mono ?_
    rintro e w1 ⟨rfl, hb1⟩
    have hQ2 := hQn _ _ hQ1 hb1
    have y22 := y2 _ hQ2
    have y32 := y3 _ hQ2
    have y42 := y4 _ hQ2
    have y52 := y5 _ hQ2
    have y62 := y6 _ hQ2
    clear hb1 y01 y11 hQ1
    go_wp2_with fail
    go_ret
    exact ⟨ret_int HF.out.symm, hQb _ hQ2⟩
  · have HF := Lib.hid (show repCheck r = 1 by rw [HR.out]; unfold emptyB; rw [hnp, hnu, f3]; simp)
    rw [f3] at y6 hQ1 y01 y11
    clear HR
    go_enter Tryz.func56, Tryz.ntmps56
    go_wp2_with fail
    refine (HC.out _ hQ1).mono ?_
    rintro e w1 ⟨rfl, hb1⟩
    have hQ2 := hQn _ _ hQ1 hb1
    have y22 := y2 _ hQ2
    have y32 := y3 _ hQ2
    have y42 := y4 _ hQ2
    have y52 := y5 _ hQ2
    have y62 := y6 _ hQ2
    clear hb1 y01 y11 hQ1
    go_wp2_with fail
    go_ret
    exact ⟨ret_int HF.out.symm, hQb _ hQ2⟩

set_option maxRecDepth 100000 in
set_option maxHeartbeats 4000000 in
theorem samePush_any (p q : Psh) (ov uv ov2 uv2 : Value) (S S' : Nat → Prop) (w : World) (ho : StoreV S w ov p.objects) (hu : MvsV S w uv p.updates) (ho2 : StoreV S' w ov2 q.objects) (hu2 : MvsV S' w uv2 q.updates) :
    Calls Tryz.prog 43 #[pshV p ov uv, pshV q ov2 uv2] w fun e w' => e = .returned (.bool (samePsh p q)) ∧ Below w.heap.size w w' := by
  have HD := Lib.hid (show samePsh p q = (sameStore p.objects q.objects && sameMvs p.updates q.updates && (p.force == q.force)) from rfl)
  have Ho := Lib.hid ho
  have Hu := Lib.hid hu
  have Ho2 := Lib.hid ho2
  have Hu2 := Lib.hid hu2
  obtain ⟨oa, oc, rfl⟩ := ho.vshape
  obtain ⟨⟨ua, uc⟩, rfl⟩ := hu.shape
  obtain ⟨oa2, oc2, rfl⟩ := ho2.vshape
  obtain ⟨⟨ua2, uc2⟩, rfl⟩ := hu2.shape
  clear ho hu ho2 hu2
  simp only [pshV]
  obtain ⟨Q, hQ, hQ1, hy, hz⟩ := cls_two w #[.slice oa p.objects.length oc, .slice ua p.updates.length uc, .bool p.force] #[.slice oa2 q.objects.length oc2, .slice ua2 q.updates.length uc2, .bool q.force] 26 26
  have hQb := hQ.below
  have hQn := hQ.next
  have H1 := Lib.hid (fun x (hx : In Q x) => sameStore_any p.objects q.objects _ _ _ _ x (Ho.out.below (hQb _ hx)) (Ho2.out.below (hQb _ hx)))
  have H2 := Lib.hid (fun x (hx : In Q x) => sameUpdates_any p.updates q.updates _ _ _ _ x (Hu.out.below (hQb _ hx)) (Hu2.out.below (hQb _ hx)))
  have y0 := hy 0 _ rfl _ hQ1
  have z0 := hz 0 _ rfl _ hQ1
  have y1 := hy 1 _ rfl
  have z1 := hz 1 _ rfl
  have y2 := hy 2 _ rfl
  have z2 := hz 2 _ rfl
  clear hy hz
  cases s1 : sameStore p.objects q.objects
  · rw [s1] at H1 HD
    go_enter Tryz.func43, Tryz.ntmps43
    go_wp2_with fail
    refine (H1.out _ hQ1).mono ?_
    rintro e w1 ⟨rfl, hb1⟩
    have hQ2 := hQn _ _ hQ1 hb1
    go_wp2_with fail
    go_ret
    exact ⟨by rw [HD.out]; rfl, hQb _ hQ2⟩
  · rw [s1] at H1 HD
    cases s2 : sameMvs p.updates q.updates
    · rw [s2] at H2 HD
      go_enter Tryz.func43, Tryz.ntmps43
      go_wp2_with fail
      refine (H1.out _ hQ1).mono ?_
      rintro e w1 ⟨rfl, hb1⟩
      have hQ2 := hQn _ _ hQ1 hb1
      have y12 := y1 _ hQ2
      have z12 := z1 _ hQ2
      go_wp2_with fail
      refine (H2.out _ hQ2).mono ?_
      rintro e w2 ⟨rfl, hb2⟩
      have hQ3 := hQn _ _ hQ2 hb2
      go_wp2_with fail
      go_ret
      exact ⟨by rw [HD.out]; rfl, hQb _ hQ3⟩
    · rw [s2] at H2 HD
      go_enter Tryz.func43, Tryz.ntmps43
      go_wp2_with fail
      refine (H1.out _ hQ1).mono ?_
      rintro e w1 ⟨rfl, hb1⟩
      have hQ2 := hQn _ _ hQ1 hb1
      have y12 := y1 _ hQ2
      have z12 := z1 _ hQ2
      go_wp2_with fail
      refine (H2.out _ hQ2).mono ?_
      rintro e w2 ⟨rfl, hb2⟩
      have hQ3 := hQn _ _ hQ2 hb2
      have y23 := y2 _ hQ3
      have z23 := z2 _ hQ3
      go_wp2_with fail
      go_ret
      exact ⟨by rw [HD.out]; rfl, hQb _ hQ3⟩

set_option maxRecDepth 100000 in
set_option maxHeartbeats 4000000 in
theorem checkReplica_any (r : Rep) (sv rv ov uv : Value) (S : Nat → Prop) (w : World) (h : RepIs S w r sv rv ov uv) :
    Calls Tryz.prog 52 #[repV r sv rv ov uv] w fun e w' => e = .returned (.int .i64 (repCheck r)) ∧ Below w.heap.size w w' := by
  have HR := Lib.hid (show repCheck r = if checkRefs r.refs r.store ≠ 0 then checkRefs r.refs r.store else if within r.gen 0 999 = false then 3 else if within r.phase 0 2 = false then 7 else if r.phase ≠ 0 then checkPsh r.pend else if emptyB r.pend = true then 0 else 1 from rfl)
  have H := Lib.hid h
  obtain ⟨sa, sc, rfl⟩ := h.store.vshape
  obtain ⟨⟨ra, rc⟩, rfl⟩ := h.refs.shape
  obtain ⟨oa, oc, rfl⟩ := h.objs.vshape
  obtain ⟨⟨ua, uc⟩, rfl⟩ := h.upds.shape
  clear h
  simp only [repV]
  obtain ⟨Q, hQ, hQ1, hy⟩ := cls_box w #[.slice sa r.store.length sc, .slice ra r.refs.length rc, .int .i64 r.gen, .int .i64 r.phase, .slice oa r.pend.objects.length oc, .slice ua r.pend.updates.length uc, .bool r.pend.force] 28
  have y0 := hy 0 _ rfl
  have y1 := hy 1 _ rfl
  have y2 := hy 2 _ rfl
  have y3 := hy 3 _ rfl
  have y4 := hy 4 _ rfl
  have y5 := hy 5 _ rfl
  have y6 := hy 6 _ rfl
  have hQb := hQ.below
  have hQn := hQ.next
  have HC := Lib.hid (fun x (hx : In Q x) => checkRefs_any r.refs r.store _ _ _ _ x (H.out.refs.below (hQb _ hx)) (H.out.store.below (hQb _ hx)))
  have HP := Lib.hid (fun x (hx : In Q x) => checkPush_any r.pend _ _ _ _ x (H.out.objs.below (hQb _ hx)) (H.out.upds.below (hQb _ hx)))
  clear hy
  have y01 := y0 _ hQ1
  have y11 := y1 _ hQ1
  by_cases e1 : checkRefs r.refs r.store = 0
  case neg =>
    have HF := Lib.hid (show repCheck r = checkRefs r.refs r.store by rw [HR.out, if_pos e1])
    have hq : (checkRefs r.refs r.store != 0) = true := by simpa using e1
    clear e1 HR
    generalize checkRefs r.refs r.store = c at *
    go_enter Tryz.func52, Tryz.ntmps52
    go_wp2_with fail
    refine (HC.out _ hQ1).mono ?_
    rintro e w1 ⟨rfl, hb1⟩
    have hQ2 := hQn _ _ hQ1 hb1
    clear hb1 y01 y11 hQ1
    go_wp2_with fail
    go_ret
    exact ⟨ret_int HF.out.symm, hQb _ hQ2⟩
  rw [if_neg (by simpa using e1)] at HR
  rw [e1] at HC
  clear e1
  by_cases egenlo : r.gen < 0
  case pos =>
    have HF := Lib.hid (show repCheck r = 3 by rw [HR.out, if_pos (by unfold within; simp; omega)])
    have hb : within r.gen 0 999 = false := by unfold within; simp; omega
    clear HR
    go_enter Tryz.func52, Tryz.ntmps52
    go_wp2_with fail
    refine (HC.out _ hQ1).mono ?_
    rintro e w1 ⟨rfl, hb1⟩
    have hQ2 := hQn _ _ hQ1 hb1
    have y22 := y2 _ hQ2
    have y32 := y3 _ hQ2
    have y42 := y4 _ hQ2
    have y52 := y5 _ hQ2
    have y62 := y6 _ hQ2
    clear hb1 y01 y11 hQ1
    go_wp2_with fail
    refine (between_any _ _ _ _).mono ?_
    rintro e w9 ⟨rfl, rfl⟩
    rw [hb]
    go_wp2_with fail
    go_ret
    exact ⟨ret_int HF.out.symm, hQb _ hQ2⟩
  by_cases egenhi : 999 < r.gen
  case pos =>
    have HF := Lib.hid (show repCheck r = 3 by rw [HR.out, if_pos (by unfold within; simp; omega)])
    have hb : within r.gen 0 999 = false := by unfold within; simp; omega
    clear HR
    go_enter Tryz.func52, Tryz.ntmps52
    go_wp2_with fail
    refine (HC.out _ hQ1).mono ?_
    rintro e w1 ⟨rfl, hb1⟩
    have hQ2 := hQn _ _ hQ1 hb1
    have y22 := y2 _ hQ2
    have y32 := y3 _ hQ2
    have y42 := y4 _ hQ2
    have y52 := y5 _ hQ2
    have y62 := y6 _ hQ2
    clear hb1 y01 y11 hQ1
    go_wp2_with fail
    refine (between_any _ _ _ _).mono ?_
    rintro e w9 ⟨rfl, rfl⟩
    rw [hb]
    go_wp2_with fail
    go_ret
    exact ⟨ret_int HF.out.symm, hQb _ hQ2⟩
  rw [if_neg (by unfold within; simp; omega)] at HR
  have hg1 : decide (r.gen < 0) = false := decide_eq_false egenlo
  have hg2 : decide (999 < r.gen) = false := decide_eq_false egenhi
  have hbg : within r.gen 0 999 = true := by unfold within; simp; omega
  by_cases ephaselo : r.phase < 0
  case pos =>
    have HF := Lib.hid (show repCheck r = 7 by rw [HR.out, if_pos (by unfold within; simp; omega)])
    have hb : within r.phase 0 2 = false := by unfold within; simp; omega
    clear HR
    go_enter Tryz.func52, Tryz.ntmps52
    go_wp2_with fail
    refine (HC.out _ hQ1).mono ?_
    rintro e w1 ⟨rfl, hb1⟩
    have hQ2 := hQn _ _ hQ1 hb1
    have y22 := y2 _ hQ2
    have y32 := y3 _ hQ2
    have y42 := y4 _ hQ2
    have y52 := y5 _ hQ2
    have y62 := y6 _ hQ2
    clear hb1 y01 y11 hQ1
    go_wp2_with fail
    refine (between_any _ _ _ _).mono ?_
    rintro e w9 ⟨rfl, rfl⟩
    rw [hbg]
    go_wp2_with fail
    refine (between_any _ _ _ _).mono ?_
    rintro e w9 ⟨rfl, rfl⟩
    rw [hb]
    go_wp2_with fail
    go_ret
    exact ⟨ret_int HF.out.symm, hQb _ hQ2⟩
  by_cases ephasehi : 2 < r.phase
  case pos =>
    have HF := Lib.hid (show repCheck r = 7 by rw [HR.out, if_pos (by unfold within; simp; omega)])
    have hb : within r.phase 0 2 = false := by unfold within; simp; omega
    clear HR
    go_enter Tryz.func52, Tryz.ntmps52
    go_wp2_with fail
    refine (HC.out _ hQ1).mono ?_
    rintro e w1 ⟨rfl, hb1⟩
    have hQ2 := hQn _ _ hQ1 hb1
    have y22 := y2 _ hQ2
    have y32 := y3 _ hQ2
    have y42 := y4 _ hQ2
    have y52 := y5 _ hQ2
    have y62 := y6 _ hQ2
    clear hb1 y01 y11 hQ1
    go_wp2_with fail
    refine (between_any _ _ _ _).mono ?_
    rintro e w9 ⟨rfl, rfl⟩
    rw [hbg]
    go_wp2_with fail
    refine (between_any _ _ _ _).mono ?_
    rintro e w9 ⟨rfl, rfl⟩
    rw [hb]
    go_wp2_with fail
    go_ret
    exact ⟨ret_int HF.out.symm, hQb _ hQ2⟩
  rw [if_neg (by unfold within; simp; omega)] at HR
  have hp1 : decide (r.phase < 0) = false := decide_eq_false ephaselo
  have hp2 : decide (2 < r.phase) = false := decide_eq_false ephasehi
  have hbp : within r.phase 0 2 = true := by unfold within; simp; omega
  by_cases e3 : r.phase = 0
  case neg =>
    have HF := Lib.hid (show repCheck r = checkPsh r.pend by rw [HR.out, if_pos e3])
    have hq : (r.phase != 0) = true := by simpa using e3
    have hd : decide (0 < r.phase) = true := decide_eq_true (by omega)
    clear HR e3
    go_enter Tryz.func52, Tryz.ntmps52
    go_wp2_with fail
    refine (HC.out _ hQ1).mono ?_
    rintro e w1 ⟨rfl, hb1⟩
    have hQ2 := hQn _ _ hQ1 hb1
    have y22 := y2 _ hQ2
    have y32 := y3 _ hQ2
    have y42 := y4 _ hQ2
    have y52 := y5 _ hQ2
    have y62 := y6 _ hQ2
    clear hb1 y01 y11 hQ1
    go_wp2_with fail
    refine (between_any _ _ _ _).mono ?_
    rintro e w9 ⟨rfl, rfl⟩
    rw [hbg]
    go_wp2_with fail
    refine (between_any _ _ _ _).mono ?_
    rintro e w9 ⟨rfl, rfl⟩
    rw [hbp]
    go_wp2_with fail
    refine (HP.out _ hQ2).mono ?_
    rintro e w3 ⟨rfl, hb3⟩
    have hQ3 := hQn _ _ hQ2 hb3
    go_wp2_with fail
    go_ret
    exact ⟨ret_int HF.out.symm, hQb _ hQ3⟩
  rw [if_neg (by simpa using e3)] at HR
  have hq : (r.phase != 0) = false := by simpa using e3
  have hd : decide (0 < r.phase) = false := decide_eq_false (by omega)
  clear e3 HP
  have HS := Lib.hid (fun x (hx : In Q x) => samePush_any r.pend psh0 _ _ (.slice none 0 0) (.slice none 0 0) S (fun _ => True) x (H.out.objs.below (hQb _ hx)) (H.out.upds.below (hQb _ hx)) (StoreV.nil _ _ _ _ (by omega)) (MvsV.nil _ _ _ _ (by omega)))
  simp only [samePsh_none, pshV] at HS
  cases he : emptyB r.pend
  · rw [he] at HS HR
    have HF := Lib.hid (show repCheck r = 1 by rw [HR.out]; simp)
    clear HR he
    go_enter Tryz.func52, Tryz.ntmps52
    go_wp2_with fail
    refine (HC.out _ hQ1).mono ?_
    rintro e w1 ⟨rfl, hb1⟩
    have hQ2 := hQn _ _ hQ1 hb1
    have y22 := y2 _ hQ2
    have y32 := y3 _ hQ2
    have y42 := y4 _ hQ2
    have y52 := y5 _ hQ2
    have y62 := y6 _ hQ2
    clear hb1 y01 y11 hQ1
    go_wp2_with fail
    refine (between_any _ _ _ _).mono ?_
    rintro e w9 ⟨rfl, rfl⟩
    rw [hbg]
    go_wp2_with fail
    refine (between_any _ _ _ _).mono ?_
    rintro e w9 ⟨rfl, rfl⟩
    rw [hbp]
    go_wp2_with fail
    refine (HS.out _ hQ2).mono ?_
    rintro e w3 ⟨rfl, hb3⟩
    have hQ3 := hQn _ _ hQ2 hb3
    go_wp2_with fail
    go_ret
    exact ⟨ret_int HF.out.symm, hQb _ hQ3⟩
  · rw [he] at HS HR
    have HF := Lib.hid (show repCheck r = 0 by rw [HR.out]; simp)
    clear HR he
    go_enter Tryz.func52, Tryz.ntmps52
    go_wp2_with fail
    refine (HC.out _ hQ1).mono ?_
    rintro e w1 ⟨rfl, hb1⟩
    have hQ2 := hQn _ _ hQ1 hb1
    have y22 := y2 _ hQ2
    have y32 := y3 _ hQ2
    have y42 := y4 _ hQ2
    have y52 := y5 _ hQ2
    have y62 := y6 _ hQ2
    clear hb1 y01 y11 hQ1
    go_wp2_with fail
    refine (between_any _ _ _ _).mono ?_
    rintro e w9 ⟨rfl, rfl⟩
    rw [hbg]
    go_wp2_with fail
    refine (between_any _ _ _ _).mono ?_
    rintro e w9 ⟨rfl, rfl⟩
    rw [hbp]
    go_wp2_with fail
    refine (HS.out _ hQ2).mono ?_
    rintro e w3 ⟨rfl, hb3⟩
    have hQ3 := hQn _ _ hQ2 hb3
    go_wp2_with fail
    go_ret
    exact ⟨ret_int HF.out.symm, hQb _ hQ3⟩

set_option maxRecDepth 100000 in
set_option maxHeartbeats 4000000 in
theorem sameReplica_any (p q : Rep) (sv rv ov uv sv2 rv2 ov2 uv2 : Value) (S S' : Nat → Prop) (w : World) (h : RepIs S w p sv rv ov uv) (h2 : RepIs S' w q sv2 rv2 ov2 uv2) :
    Calls Tryz.prog 42 #[repV p sv rv ov uv, repV q sv2 rv2 ov2 uv2] w fun e w' => e = .returned (.bool (sameRep p q)) ∧ Below w.heap.size w w' := by
  have HD := Lib.hid (show sameRep p q = (sameStore p.store q.store && sameRefs p.refs q.refs && (p.gen == q.gen) && (p.phase == q.phase) && samePsh p.pend q.pend) from rfl)
  have H := Lib.hid h
  have G := Lib.hid h2
  obtain ⟨sa, sc, rfl⟩ := h.store.vshape
  obtain ⟨⟨ra, rc⟩, rfl⟩ := h.refs.shape
  obtain ⟨oa, oc, rfl⟩ := h.objs.vshape
  obtain ⟨⟨ua, uc⟩, rfl⟩ := h.upds.shape
  obtain ⟨sa2, sc2, rfl⟩ := h2.store.vshape
  obtain ⟨⟨ra2, rc2⟩, rfl⟩ := h2.refs.shape
  obtain ⟨oa2, oc2, rfl⟩ := h2.objs.vshape
  obtain ⟨⟨ua2, uc2⟩, rfl⟩ := h2.upds.shape
  clear h h2
  simp only [repV]
  obtain ⟨Q, hQ, hQ1, hy, hz⟩ := cls_two w #[.slice sa p.store.length sc, .slice ra p.refs.length rc, .int .i64 p.gen, .int .i64 p.phase, .slice oa p.pend.objects.length oc, .slice ua p.pend.updates.length uc, .bool p.pend.force]
    #[.slice sa2 q.store.length sc2, .slice ra2 q.refs.length rc2, .int .i64 q.gen, .int .i64 q.phase, .slice oa2 q.pend.objects.length oc2, .slice ua2 q.pend.updates.length uc2, .bool q.pend.force] 28 28
  have hQb := hQ.below
  have hQn := hQ.next
  have H1 := Lib.hid (fun x (hx : In Q x) => sameStore_any p.store q.store _ _ _ _ x (H.out.store.below (hQb _ hx)) (G.out.store.below (hQb _ hx)))
  have H2 := Lib.hid (fun x (hx : In Q x) => sameRefs_any p.refs q.refs _ _ _ _ x (H.out.refs.below (hQb _ hx)) (G.out.refs.below (hQb _ hx)))
  have H3 := Lib.hid (fun x (hx : In Q x) => samePush_any p.pend q.pend _ _ _ _ _ _ x (H.out.objs.below (hQb _ hx)) (H.out.upds.below (hQb _ hx)) (G.out.objs.below (hQb _ hx)) (G.out.upds.below (hQb _ hx)))
  simp only [pshV] at H3
  have y0 := hy 0 _ rfl _ hQ1
  have z0 := hz 0 _ rfl _ hQ1
  have y1 := hy 1 _ rfl
  have z1 := hz 1 _ rfl
  have y2 := hy 2 _ rfl
  have z2 := hz 2 _ rfl
  have y3 := hy 3 _ rfl
  have z3 := hz 3 _ rfl
  have y4 := hy 4 _ rfl
  have z4 := hz 4 _ rfl
  have y5 := hy 5 _ rfl
  have z5 := hz 5 _ rfl
  have y6 := hy 6 _ rfl
  have z6 := hz 6 _ rfl
  clear hy hz
  cases s1 : sameStore p.store q.store
  · rw [s1] at H1 HD
    go_enter Tryz.func42, Tryz.ntmps42
    go_wp2_with fail
    refine (H1.out _ hQ1).mono ?_
    rintro e w1 ⟨rfl, hbw1⟩
    have hQ2 := hQn _ _ hQ1 hbw1
    go_wp2_with fail
    go_ret
    exact ⟨by rw [HD.out]; rfl, hQb _ hQ2⟩
  · rw [s1] at H1 HD
    cases s2 : sameRefs p.refs q.refs
    · rw [s2] at H2 HD
      go_enter Tryz.func42, Tryz.ntmps42
      go_wp2_with fail
      refine (H1.out _ hQ1).mono ?_
      rintro e w1 ⟨rfl, hbw1⟩
      have hQ2 := hQn _ _ hQ1 hbw1
      have y1zhQ2 := y1 _ hQ2
      have z1zhQ2 := z1 _ hQ2
      go_wp2_with fail
      refine (H2.out _ hQ2).mono ?_
      rintro e w2 ⟨rfl, hbw2⟩
      have hQ3 := hQn _ _ hQ2 hbw2
      go_wp2_with fail
      go_ret
      exact ⟨by rw [HD.out]; rfl, hQb _ hQ3⟩
    · rw [s2] at H2 HD
      cases s3 : (p.gen == q.gen)
      · rw [s3] at HD
        go_enter Tryz.func42, Tryz.ntmps42
        go_wp2_with fail
        refine (H1.out _ hQ1).mono ?_
        rintro e w1 ⟨rfl, hbw1⟩
        have hQ2 := hQn _ _ hQ1 hbw1
        have y1zhQ2 := y1 _ hQ2
        have z1zhQ2 := z1 _ hQ2
        go_wp2_with fail
        refine (H2.out _ hQ2).mono ?_
        rintro e w2 ⟨rfl, hbw2⟩
        have hQ3 := hQn _ _ hQ2 hbw2
        have y2zhQ3 := y2 _ hQ3
        have z2zhQ3 := z2 _ hQ3
        go_wp2_with fail
        go_ret
        exact ⟨by rw [HD.out]; rfl, hQb _ hQ3⟩
      · rw [s3] at HD
        cases s4 : (p.phase == q.phase)
        · rw [s4] at HD
          go_enter Tryz.func42, Tryz.ntmps42
          go_wp2_with fail
          refine (H1.out _ hQ1).mono ?_
          rintro e w1 ⟨rfl, hbw1⟩
          have hQ2 := hQn _ _ hQ1 hbw1
          have y1zhQ2 := y1 _ hQ2
          have z1zhQ2 := z1 _ hQ2
          go_wp2_with fail
          refine (H2.out _ hQ2).mono ?_
          rintro e w2 ⟨rfl, hbw2⟩
          have hQ3 := hQn _ _ hQ2 hbw2
          have y2zhQ3 := y2 _ hQ3
          have z2zhQ3 := z2 _ hQ3
          have y3zhQ3 := y3 _ hQ3
          have z3zhQ3 := z3 _ hQ3
          go_wp2_with fail
          go_ret
          exact ⟨by rw [HD.out]; rfl, hQb _ hQ3⟩
        · rw [s4] at HD
          go_enter Tryz.func42, Tryz.ntmps42
          go_wp2_with fail
          refine (H1.out _ hQ1).mono ?_
          rintro e w1 ⟨rfl, hbw1⟩
          have hQ2 := hQn _ _ hQ1 hbw1
          have y1zhQ2 := y1 _ hQ2
          have z1zhQ2 := z1 _ hQ2
          go_wp2_with fail
          refine (H2.out _ hQ2).mono ?_
          rintro e w2 ⟨rfl, hbw2⟩
          have hQ3 := hQn _ _ hQ2 hbw2
          have y2zhQ3 := y2 _ hQ3
          have z2zhQ3 := z2 _ hQ3
          have y3zhQ3 := y3 _ hQ3
          have z3zhQ3 := z3 _ hQ3
          have y4zhQ3 := y4 _ hQ3
          have z4zhQ3 := z4 _ hQ3
          have y5zhQ3 := y5 _ hQ3
          have z5zhQ3 := z5 _ hQ3
          have y6zhQ3 := y6 _ hQ3
          have z6zhQ3 := z6 _ hQ3
          go_wp2_with fail
          refine (H3.out _ hQ3).mono ?_
          rintro e w3 ⟨rfl, hbw3⟩
          have hQ4 := hQn _ _ hQ3 hbw3
          go_wp2_with fail
          go_ret
          exact ⟨by rw [HD.out]; rfl, hQb _ hQ4⟩
end Go.Proofs.YtdhoodloklgokaaGreatDoor

/- RepW: replicas that come back, their variables; walk of replicaIs. -/
namespace Go.Proofs.YtdhoodloklgokaaGreatDoor
open Go.RowKit
set_option linter.unusedVariables false
set_option linter.unusedSimpArgs false

theorem RefsV.bytes {S : Nat → Prop} {w : World} {v : Value} {l : List Rf} (h : RefsV S w v l) : l.length * 24 ≤ 140737488351232 :=
  let ⟨⟨_, _, _, _, _, h3, _⟩, _⟩ := h; h3

/-- a replica comes back beside an errno -/
def RetRepE (w w' : World) (e : Ending) (r : Rep) (c : Int) : Prop := ∃ sv rv ov uv, e = .returned (.tuple #[repV r sv rv ov uv, .int .i64 c]) ∧ RepIs (fun _ => True) w' r sv rv ov uv ∧ Below w.heap.size w w'
/-- all of it new -/
def RetRepF (w w' : World) (e : Ending) (r : Rep) (c : Int) : Prop := ∃ sv rv ov uv, e = .returned (.tuple #[repV r sv rv ov uv, .int .i64 c]) ∧ RepIs (fun b => w.heap.size ≤ b) w' r sv rv ov uv ∧ Below w.heap.size w w'
theorem RetRepF.e {w w' : World} {e : Ending} {r : Rep} {c : Int} (h : RetRepF w w' e r c) : RetRepE w w' e r c := let ⟨_, _, _, _, h1, h2, h3⟩ := h; ⟨_, _, _, _, h1, h2.weaken fun _ _ => trivial, h3⟩
/-- where it lies is told -/
def RetRepA (A : Nat → Prop) (w w' : World) (e : Ending) (r : Rep) (c : Int) : Prop := ∃ sv rv ov uv, e = .returned (.tuple #[repV r sv rv ov uv, .int .i64 c]) ∧ RepIs (fun b => A b ∨ w.heap.size ≤ b) w' r sv rv ov uv ∧ Below w.heap.size w w'
theorem RetRepA.e {A : Nat → Prop} {w w' : World} {e : Ending} {r : Rep} {c : Int} (h : RetRepA A w w' e r c) : RetRepE w w' e r c := let ⟨_, _, _, _, h1, h2, h3⟩ := h; ⟨_, _, _, _, h1, h2.weaken fun _ _ => trivial, h3⟩
theorem rep0_is (S : Nat → Prop) (w : World) : RepIs S w rep0 (.slice none 0 0) (.slice none 0 0) (.slice none 0 0) (.slice none 0 0) :=
  ⟨StoreV.nil _ _ _ _ (by omega), RefsV.nil _ _ _ _ (by omega), StoreV.nil _ _ _ _ (by omega), MvsV.nil _ _ _ _ (by omega), by unfold I64; decide, by unfold I64; decide⟩

theorem foldl_below : ∀ (os : List Go.Obj) (w : World), Below w.heap.size w (os.foldl World.alloc w)
  | [], w => Below.refl _ _
  | o :: os, w => Below.trans ((Below.refl w.heap.size w).alloc (Nat.le_refl _) o) ((foldl_below os (w.alloc o)).mono (by simp))
theorem foldl_size : ∀ (os : List Go.Obj) (w : World), (os.foldl World.alloc w).heap.size = w.heap.size + os.length
  | [], w => rfl
  | o :: os, w => by rw [List.foldl_cons, foldl_size os]; simp; omega
theorem foldl_get : ∀ (os : List Go.Obj) (w : World) (j : Nat) (o : Go.Obj), os[j]? = some o → (os.foldl World.alloc w).heap[w.heap.size + j]? = some o
  | [], w, j, o, h => by simp at h
  | o' :: os, w, 0, o, h => by
    obtain rfl : o' = o := by simpa using h
    rw [List.foldl_cons, (foldl_below os (w.alloc o')).block _ (by simp)]
    exact heap_alloc_new w o'
  | o' :: os, w, j + 1, o, h => by
    have := foldl_get os (w.alloc o') j o (by simpa using h)
    rw [List.foldl_cons, show w.heap.size + (j + 1) = (w.alloc o').heap.size + j by simp; omega]
    exact this
/-- behind some new blocks, which nobody writes any more -/
theorem cls_allocs (w : World) (os : List Go.Obj) : ∃ R : World → Prop, Cls w R ∧ In R (os.foldl World.alloc w) ∧ ∀ x, In R x → ∀ j o, os[j]? = some o → x.heap[w.heap.size + j]? = some o := by
  refine ⟨_, cls_of w (os.foldl World.alloc w) (w.heap.size + os.length) (by omega) (by rw [foldl_size]; exact Nat.le_refl _) (foldl_below os w), Below.refl _ _, fun x hx j o hj => ?_⟩
  have hlt := (List.getElem?_eq_some_iff.1 hj).1
  rw [Below.block hx _ (by omega)]
  exact foldl_get os w j o hj

theorem RepIs.lt {S : Nat → Prop} {w : World} {r : Rep} {sv rv ov uv : Value} (h : RepIs S w r sv rv ov uv) : RepIs (fun b => S b ∧ b < w.heap.size) w r sv rv ov uv :=
  ⟨h.store.lt, h.refs.lt, h.objs.lt, h.upds.lt, h.gen, h.phase⟩
theorem RepIs.upd {S T : Nat → Prop} {w w' : World} {r : Rep} {sv rv ov uv : Value} (h : RepIs S w r sv rv ov uv) (hu : Upd T w w') (hT : ∀ b, S b → ¬ T b) : RepIs S w' r sv rv ov uv :=
  ⟨h.store.upd' hu hT, h.refs.upd hu hT, h.objs.upd' hu hT, h.upds.upd hu hT, h.gen, h.phase⟩
/-- is a replica what it must be beside an errno? -/
def repIsB (r : Rep) (e c : Int) (want : Rep) : Bool := (e == c) && sameRep r (if c = 0 then want else rep0)
theorem repIsB_same (r : Rep) (c : Int) (h : c ≠ 0 → r = rep0) : repIsB r c c r = true := by
  unfold repIsB
  by_cases hc : c = 0
  · rw [if_pos hc, (sameRep_iff _ _).2 rfl]; simp
  · rw [if_neg hc, h hc, (sameRep_iff _ _).2 rfl]; simp

set_option maxRecDepth 100000 in
set_option maxHeartbeats 2000000 in
theorem replicaIs_any (n r : Rep) (e c : Int) (sv rv ov uv sv2 rv2 ov2 uv2 : Value) (S S' : Nat → Prop) (w : World) (h : RepIs S w n sv rv ov uv) (h2 : RepIs S' w r sv2 rv2 ov2 uv2) :
    Calls Tryz.prog 57 #[repV n sv rv ov uv, .int .i64 e, .int .i64 c, repV r sv2 rv2 ov2 uv2] w fun en w' => en = .returned (.bool (repIsB n e c r)) ∧ Below w.heap.size w w' := by
  have HI := Lib.hid (show repIsB n e c r = ((e == c) && sameRep n (if c = 0 then r else rep0)) from rfl)
  have H := Lib.hid h
  have G := Lib.hid h2
  obtain ⟨sa, sc, rfl⟩ := h.store.vshape
  obtain ⟨⟨ra, rc⟩, rfl⟩ := h.refs.shape
  obtain ⟨oa, oc, rfl⟩ := h.objs.vshape
  obtain ⟨⟨ua, uc⟩, rfl⟩ := h.upds.shape
  obtain ⟨sa2, sc2, rfl⟩ := h2.store.vshape
  obtain ⟨⟨ra2, rc2⟩, rfl⟩ := h2.refs.shape
  obtain ⟨oa2, oc2, rfl⟩ := h2.objs.vshape
  obtain ⟨⟨ua2, uc2⟩, rfl⟩ := h2.upds.shape
  clear h h2
  simp only [repV]
  by_cases hc : c = 0
  · subst hc
    rw [if_pos rfl] at HI
    obtain ⟨Q, hQ, hQ1, HB0⟩ := cls_allocs w [.cells #[.slice sa n.store.length sc, .slice ra n.refs.length rc, .int .i64 n.gen, .int .i64 n.phase, .slice oa n.pend.objects.length oc, .slice ua n.pend.updates.length uc, .bool n.pend.force] 28, .cells #[.slice sa2 r.store.length sc2, .slice ra2 r.refs.length rc2, .int .i64 r.gen, .int .i64 r.phase, .slice oa2 r.pend.objects.length oc2, .slice ua2 r.pend.updates.length uc2, .bool r.pend.force] 28]
    simp only [List.foldl] at hQ1
    have hQb := hQ.below
    have HC := Lib.hid (fun x (hx : In Q x) => sameReplica_any n r _ _ _ _ _ _ _ _ _ _ x (H.out.below (hQb _ hx)) (G.out.below (hQb _ hx)))
    simp only [repV] at HC
    have y0 := block_cell (j := 0) (HB0 _ hQ1 0 _ rfl) rfl
    have y1 := block_cell (j := 1) (HB0 _ hQ1 0 _ rfl) rfl
    have y2 := block_cell (j := 2) (HB0 _ hQ1 0 _ rfl) rfl
    have y3 := block_cell (j := 3) (HB0 _ hQ1 0 _ rfl) rfl
    have y4 := block_cell (j := 4) (HB0 _ hQ1 0 _ rfl) rfl
    have y5 := block_cell (j := 5) (HB0 _ hQ1 0 _ rfl) rfl
    have y6 := block_cell (j := 6) (HB0 _ hQ1 0 _ rfl) rfl
    have z0 := block_cell (j := 0) (HB0 _ hQ1 1 _ rfl) rfl
    have z1 := block_cell (j := 1) (HB0 _ hQ1 1 _ rfl) rfl
    have z2 := block_cell (j := 2) (HB0 _ hQ1 1 _ rfl) rfl
    have z3 := block_cell (j := 3) (HB0 _ hQ1 1 _ rfl) rfl
    have z4 := block_cell (j := 4) (HB0 _ hQ1 1 _ rfl) rfl
    have z5 := block_cell (j := 5) (HB0 _ hQ1 1 _ rfl) rfl
    have z6 := block_cell (j := 6) (HB0 _ hQ1 1 _ rfl) rfl
    simp only [Nat.add_zero] at y0 y1 y2 y3 y4 y5 y6 z0 z1 z2 z3 z4 z5 z6
    clear HB0
    cases ec : (e == 0)
    · rw [ec, Bool.false_and] at HI
      go_enter Tryz.func57, Tryz.ntmps57
      go_wp2_with fail
      go_ret
      exact ⟨by rw [HI.out]; rfl, hQb _ hQ1⟩
    · rw [ec, Bool.true_and] at HI
      rw [← HI.out] at HC
      go_enter Tryz.func57, Tryz.ntmps57
      go_wp2_with fail
      refine (HC.out _ hQ1).mono ?_
      rintro e w1 ⟨rfl, hb1⟩
      have hQ2 := hQ.next _ _ hQ1 hb1
      go_wp2_with fail
      go_ret
      exact ⟨rfl, hQb _ hQ2⟩
  · skip
    rw [if_neg hc] at HI
    have hq : (c != 0) = true := by simpa using hc
    clear hc
    obtain ⟨Q, hQ, hQ1, HB0⟩ := cls_allocs w [.cells #[.slice sa n.store.length sc, .slice ra n.refs.length rc, .int .i64 n.gen, .int .i64 n.phase, .slice oa n.pend.objects.length oc, .slice ua n.pend.updates.length uc, .bool n.pend.force] 28, .cells #[.slice none 0 0, .slice none 0 0, .int .i64 0, .int .i64 0, .slice none 0 0, .slice none 0 0, .bool false] 28]
    simp only [List.foldl] at hQ1
    have hQb := hQ.below
    have HC := Lib.hid (fun x (hx : In Q x) => sameReplica_any n rep0 _ _ _ _ _ _ _ _ _ _ x (H.out.below (hQb _ hx)) (rep0_is (fun _ => True) x))
    simp only [repV, rep0, psh0] at HC
    have y0 := block_cell (j := 0) (HB0 _ hQ1 0 _ rfl) rfl
    have y1 := block_cell (j := 1) (HB0 _ hQ1 0 _ rfl) rfl
    have y2 := block_cell (j := 2) (HB0 _ hQ1 0 _ rfl) rfl
    have y3 := block_cell (j := 3) (HB0 _ hQ1 0 _ rfl) rfl
    have y4 := block_cell (j := 4) (HB0 _ hQ1 0 _ rfl) rfl
    have y5 := block_cell (j := 5) (HB0 _ hQ1 0 _ rfl) rfl
    have y6 := block_cell (j := 6) (HB0 _ hQ1 0 _ rfl) rfl
    have z0 := block_cell (j := 0) (HB0 _ hQ1 1 _ rfl) rfl
    have z1 := block_cell (j := 1) (HB0 _ hQ1 1 _ rfl) rfl
    have z2 := block_cell (j := 2) (HB0 _ hQ1 1 _ rfl) rfl
    have z3 := block_cell (j := 3) (HB0 _ hQ1 1 _ rfl) rfl
    have z4 := block_cell (j := 4) (HB0 _ hQ1 1 _ rfl) rfl
    have z5 := block_cell (j := 5) (HB0 _ hQ1 1 _ rfl) rfl
    have z6 := block_cell (j := 6) (HB0 _ hQ1 1 _ rfl) rfl
    simp only [Nat.add_zero] at y0 y1 y2 y3 y4 y5 y6 z0 z1 z2 z3 z4 z5 z6
    clear HB0
    cases ec : (e == c)
    · rw [ec, Bool.false_and] at HI
      go_enter Tryz.func57, Tryz.ntmps57
      go_wp2_with fail
      go_ret
      exact ⟨by rw [HI.out]; rfl, hQb _ hQ1⟩
    · rw [ec, Bool.true_and] at HI
      have HC2 := HC
      rw [show sameRep n ⟨[], [], 0, 0, ⟨[], [], false⟩⟩ = sameRep n rep0 from rfl, ← HI.out] at HC2
      go_enter Tryz.func57, Tryz.ntmps57
      go_wp2_with fail
      refine (HC2.out _ hQ1).mono ?_
      rintro e w1 ⟨rfl, hb1⟩
      have hQ2 := hQ.next _ _ hQ1 hb1
      go_wp2_with fail
      go_ret
      exact ⟨rfl, hQb _ hQ2⟩
end Go.Proofs.YtdhoodloklgokaaGreatDoor
