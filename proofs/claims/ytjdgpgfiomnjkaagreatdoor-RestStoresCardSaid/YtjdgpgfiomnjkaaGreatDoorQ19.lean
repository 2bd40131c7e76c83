
/- RepA: RepA, RepW. -/
import Derived.Test.YtjdgpgfiomnjkaaGreatDoorQ17
import Derived.Test.YtjdgpgfiomnjkaaGreatDoorQ18
import Derived.Test.YtjdgpgfiomnjkaaGreatDoorQ10
import Derived.Test.YtjdgpgfiomnjkaaGreatDoorQ16
namespace Go.Proofs.YtjdgpgfiomnjkaaGreatDoor
open Go.RowKit
set_option linter.unusedVariables false
set_option linter.unusedSimpArgs false
set_option linter.unusedSectionVars false
variable [Ghost]
def emptyB (p : Psh) : Bool := decide (p.objects.length = 0) && decide (p.updates.length = 0) && !p.force
def repCheck (r : Rep) : Int := if checkRefs r.refs r.store ≠ 0 then checkRefs r.refs r.store else if within r.gen 0 999 = false then 3 else if within r.phase 0 2 = false then 7 else if r.phase ≠ 0 then checkPsh r.pend else if emptyB r.pend = true then 0 else 1
def samePsh (a b : Psh) : Bool := sameStore a.objects b.objects && sameMvs a.updates b.updates && (a.force == b.force)
theorem samePsh_iff (a b : Psh) : samePsh a b = true ↔ a = b := by
 unfold samePsh
 rw [Bool.and_eq_true, Bool.and_eq_true, sameStore_iff, sameMvs_iff, beq_iff_eq]
 constructor
 ·rintro ⟨⟨h1, h2⟩, h3⟩; cases a; cases b; simp_all
 ·rintro rfl; exact ⟨⟨rfl, rfl⟩, rfl⟩
theorem samePsh_none (p : Psh) : samePsh p psh0 = emptyB p := by
 rw [Bool.eq_iff_iff, samePsh_iff]
 unfold emptyB
 obtain ⟨l, us, f⟩ := p
 cases f <;> simp [psh0, List.length_eq_zero_iff]
def sameRep (a b : Rep) : Bool := sameStore a.store b.store && sameRefs a.refs b.refs && (a.gen == b.gen) && (a.phase == b.phase) && samePsh a.pend b.pend
theorem sameRep_iff (a b : Rep) : sameRep a b = true ↔ a = b := by
 unfold sameRep
 rw [Bool.and_eq_true, Bool.and_eq_true, Bool.and_eq_true, Bool.and_eq_true, sameStore_iff, sameRefs_iff, beq_iff_eq, beq_iff_eq, samePsh_iff]
 constructor
 ·rintro ⟨⟨⟨⟨h1, h2⟩, h3⟩, h4⟩, h5⟩; cases a; cases b; simp_all
 ·rintro rfl; exact ⟨⟨⟨⟨rfl, rfl⟩, rfl⟩, rfl⟩, rfl⟩
set_option maxRecDepth 100000 in
set_option maxHeartbeats 4000000 in
theorem repCheck_any (r : Rep) (sv rv ov uv : Value) (S : Nat → Prop) (w : World) (h : RepIs S w r sv rv ov uv) :
  Calls Tryz.prog 56 #[repV r sv rv ov uv] w fun e w' => e = .returned (.int .i64 (repCheck r)) ∧ Below w.heap.size w w' := by
 have HR := Lib.hid (show repCheck r = if checkRefs r.refs r.store ≠ 0 then checkRefs r.refs r.store else if within r.gen 0 999 = false then 3 else if within r.phase 0 2 = false then 7 else if r.phase ≠ 0 then checkPsh r.pend else if emptyB r.pend = true then 0 else 1 from rfl)
 have H := Lib.hid h
 obtain ⟨sa, sc, rfl⟩ := h.store.vshape
 obtain ⟨⟨ra, rc⟩, rfl⟩ := h.refs.shape
 obtain ⟨oa, oc, rfl⟩ := h.objs.vshape
 obtain ⟨⟨ua, uc⟩, rfl⟩ := h.upds.shape
 clear h
 simp only [repV]
 obtain ⟨Q, hQ, hQ1, hy⟩ := cls_box w #[.slice sa r.store.length sc, .slice ra r.refs.length rc, .int .i64 r.gen, .int .i64 r.phase, .slice oa r.pend.objects.length oc, .slice ua r.pend.updates.length uc, .bool r.pend.force] 28
 have y0 := hy 0 _ rfl
 have y1 := hy 1 _ rfl
 have y2 := hy 2 _ rfl
 have y3 := hy 3 _ rfl
 have y4 := hy 4 _ rfl
 have y5 := hy 5 _ rfl
 have y6 := hy 6 _ rfl
 have hQb := hQ.below
 have hQn := hQ.next
 have HC := Lib.hid (fun x (hx : In Q x) => refsCheck_any r.refs r.store _ _ _ _ x (H.out.refs.below (hQb _ hx)) (H.out.store.below (hQb _ hx)))
 have HP := Lib.hid (fun x (hx : In Q x) => pushCheck_any r.pend _ _ _ _ x (H.out.objs.below (hQb _ hx)) (H.out.upds.below (hQb _ hx)))
 clear hy
 have y01 := y0 _ hQ1
 have y11 := y1 _ hQ1
 by_cases e1 : checkRefs r.refs r.store = 0
 case neg =>
  have HF := Lib.hid (show repCheck r = checkRefs r.refs r.store by rw [HR.out, if_pos e1])
  have hq : (checkRefs r.refs r.store != 0) = true := by simpa using e1
  clear e1 HR
  generalize checkRefs r.refs r.store = c at *
  go_enter Tryz.func56, Tryz.ntmps56
  go_wp2_with fail
  refine (HC.out _ hQ1).mono ?_
  rintro e w1 ⟨rfl, hb1⟩
  have hQ2 := hQn _ _ hQ1 hb1
  clear hb1 y01 y11 hQ1
  go_wp2_with fail
  go_ret
  exact ⟨ret_int HF.out.symm, hQb _ hQ2⟩
 rw [if_neg (by simpa using e1)] at HR
 rw [e1] at HC
 clear e1
 by_cases egenlo : r.gen < 0
 case pos =>
  have HF := Lib.hid (show repCheck r = 3 by rw [HR.out, if_pos (by unfold within; simp; omega)])
  have hd : decide (r.gen < 0) = true := decide_eq_true egenlo
  clear HR
  go_enter Tryz.func56, Tryz.ntmps56
  go_wp2_with fail
  refine (HC.out _ hQ1).mono ?_
  rintro e w1 ⟨rfl, hb1⟩
  have hQ2 := hQn _ _ hQ1 hb1
  have y22 := y2 _ hQ2
  have y32 := y3 _ hQ2
  have y42 := y4 _ hQ2
  have y52 := y5 _ hQ2
  have y62 := y6 _ hQ2
  clear hb1 y01 y11 hQ1
  go_wp2_with fail
  go_ret
  exact ⟨ret_int HF.out.symm, hQb _ hQ2⟩
 by_cases egenhi : 999 < r.gen
 case pos =>
  have HF := Lib.hid (show repCheck r = 3 by rw [HR.out, if_pos (by unfold within; simp; omega)])
  have hd : decide (r.gen < 0) = false := decide_eq_false egenlo
  have hd2 : decide (999 < r.gen) = true := decide_eq_true egenhi
  clear HR
  go_enter Tryz.func56, Tryz.ntmps56
  go_wp2_with fail
  refine (HC.out _ hQ1).mono ?_
  rintro e w1 ⟨rfl, hb1⟩
  have hQ2 := hQn _ _ hQ1 hb1
  have y22 := y2 _ hQ2
  have y32 := y3 _ hQ2
  have y42 := y4 _ hQ2
  have y52 := y5 _ hQ2
  have y62 := y6 _ hQ2
  clear hb1 y01 y11 hQ1
  go_wp2_with fail
  go_ret
  exact ⟨ret_int HF.out.symm, hQb _ hQ2⟩
 rw [if_neg (by unfold within; simp; omega)] at HR
 have hg1 : decide (r.gen < 0) = false := decide_eq_false egenlo
 have hg2 : decide (999 < r.gen) = false := decide_eq_false egenhi
 by_cases ephaselo : r.phase < 0
 case pos =>
  have HF := Lib.hid (show repCheck r = 7 by rw [HR.out, if_pos (by unfold within; simp; omega)])
  have hd : decide (r.phase < 0) = true := decide_eq_true ephaselo
  clear HR
  go_enter Tryz.func56, Tryz.ntmps56
  go_wp2_with fail
  refine (HC.out _ hQ1).mono ?_
  rintro e w1 ⟨rfl, hb1⟩
  have hQ2 := hQn _ _ hQ1 hb1
  have y22 := y2 _ hQ2
  have y32 := y3 _ hQ2
  have y42 := y4 _ hQ2
  have y52 := y5 _ hQ2
  have y62 := y6 _ hQ2
  clear hb1 y01 y11 hQ1
  go_wp2_with fail
  go_ret
  exact ⟨ret_int HF.out.symm, hQb _ hQ2⟩
 by_cases ephasehi : 2 < r.phase
 case pos =>
  have HF := Lib.hid (show repCheck r = 7 by rw [HR.out, if_pos (by unfold within; simp; omega)])
  have hd : decide (r.phase < 0) = false := decide_eq_false ephaselo
  have hd2 : decide (2 < r.phase) = true := decide_eq_true ephasehi
  clear HR
  go_enter Tryz.func56, Tryz.ntmps56
  go_wp2_with fail
  refine (HC.out _ hQ1).mono ?_
  rintro e w1 ⟨rfl, hb1⟩
  have hQ2 := hQn _ _ hQ1 hb1
  have y22 := y2 _ hQ2
  have y32 := y3 _ hQ2
  have y42 := y4 _ hQ2
  have y52 := y5 _ hQ2
  have y62 := y6 _ hQ2
  clear hb1 y01 y11 hQ1
  go_wp2_with fail
  go_ret
  exact ⟨ret_int HF.out.symm, hQb _ hQ2⟩
 rw [if_neg (by unfold within; simp; omega)] at HR
 have hp1 : decide (r.phase < 0) = false := decide_eq_false ephaselo
 have hp2 : decide (2 < r.phase) = false := decide_eq_false ephasehi
 by_cases e3 : r.phase = 0
 case neg =>
  have HF := Lib.hid (show repCheck r = checkPsh r.pend by rw [HR.out, if_pos e3])
  have hq : (r.phase != 0) = true := by simpa using e3
  have hd : decide (0 < r.phase) = true := decide_eq_true (by omega)
  clear HR e3
  go_enter Tryz.func56, Tryz.ntmps56
  go_wp2_with fail
  refine (HC.out _ hQ1).mono ?_
  rintro e w1 ⟨rfl, hb1⟩
  have hQ2 := hQn _ _ hQ1 hb1
  have y22 := y2 _ hQ2
  have y32 := y3 _ hQ2
  have y42 := y4 _ hQ2
  have y52 := y5 _ hQ2
  have y62 := y6 _ hQ2
  clear hb1 y01 y11 hQ1
  go_wp2_with fail
  refine (HP.out _ hQ2).mono ?_
  rintro e w3 ⟨rfl, hb3⟩
  have hQ3 := hQn _ _ hQ2 hb3
  go_wp2_with fail
  go_ret
  exact ⟨ret_int HF.out.symm, hQb _ hQ3⟩
 rw [if_neg (by simpa using e3)] at HR
 have hq : (r.phase != 0) = false := by simpa using e3
 have hd : decide (0 < r.phase) = false := decide_eq_false (by omega)
 clear e3 HP
 generalize hnp : r.pend.objects.length = np at *
 generalize hnu : r.pend.updates.length = nu at *
 by_cases f1 : np = 0
 case neg =>
  have HF := Lib.hid (show repCheck r = 1 by rw [HR.out, if_neg (by unfold emptyB; rw [hnp, hnu]; simp; omega)])
  clear HR
  go_enter Tryz.func56, Tryz.ntmps56
  go_wp2_with fail
  refine (HC.out _ hQ1).mono ?_
  rintro e w1 ⟨rfl, hb1⟩
  have hQ2 := hQn _ _ hQ1 hb1
  have y22 := y2 _ hQ2
  have y32 := y3 _ hQ2
  have y42 := y4 _ hQ2
  have y52 := y5 _ hQ2
  have y62 := y6 _ hQ2
  clear hb1 y01 y11 hQ1
  go_wp2_with fail
  go_ret
  exact ⟨ret_int HF.out.symm, hQb _ hQ2⟩
 subst f1
 by_cases f2 : nu = 0
 case neg =>
  have HF := Lib.hid (show repCheck r = 1 by rw [HR.out, if_neg (by unfold emptyB; rw [hnp, hnu]; simp; omega)])
  clear HR
  go_enter Tryz.func56, Tryz.ntmps56
  go_wp2_with fail
  refine (HC.out _ hQ1).mono ?_
  rintro e w1 ⟨rfl, hb1⟩
  have hQ2 := hQn _ _ hQ1 hb1
  have y22 := y2 _ hQ2
  have y32 := y3 _ hQ2
  have y42 := y4 _ hQ2
  have y52 := y5 _ hQ2
  have y62 := y6 _ hQ2
  clear hb1 y01 y11 hQ1
  go_wp2_with fail
  go_ret
  exact ⟨ret_int HF.out.symm, hQb _ hQ2⟩
 subst f2
 cases f3 : r.pend.force
 ·have HF := Lib.hid (show repCheck r = 0 by rw [HR.out]; unfold emptyB; rw [hnp, hnu, f3]; simp)
  rw [f3] at y6 hQ1 y01 y11
  clear HR
  go_enter Tryz.func56, Tryz.ntmps56
  go_wp2_with fail
  refine (HC.out _ hQ1).mono ?_
  rintro e w1 ⟨rfl, hb1⟩
  have hQ2 := hQn _ _ hQ1 hb1
  have y22 := y2 _ hQ2
  have y32 := y3 _ hQ2
  have y42 := y4 _ hQ2
  have y52 := y5 _ hQ2
  have y62 := y6 _ hQ2
  clear hb1 y01 y11 hQ1
  go_wp2_with fail
  go_ret
  exact ⟨ret_int HF.out.symm, hQb _ hQ2⟩
 ·have HF := Lib.hid (show repCheck r = 1 by rw [HR.out]; unfold emptyB; rw [hnp, hnu, f3]; simp)
  rw [f3] at y6 hQ1 y01 y11
  clear HR
  go_enter Tryz.func56, Tryz.ntmps56
  go_wp2_with fail
  refine (HC.out _ hQ1).mono ?_
  rintro e w1 ⟨rfl, hb1⟩
  have hQ2 := hQn _ _ hQ1 hb1
  have y22 := y2 _ hQ2
  have y32 := y3 _ hQ2
  have y42 := y4 _ hQ2
  have y52 := y5 _ hQ2
  have y62 := y6 _ hQ2
  clear hb1 y01 y11 hQ1
  go_wp2_with fail
  go_ret
  exact ⟨ret_int HF.out.symm, hQb _ hQ2⟩
set_option maxRecDepth 100000 in
set_option maxHeartbeats 4000000 in
theorem samePush_any (p q : Psh) (ov uv ov2 uv2 : Value) (S S' : Nat → Prop) (w : World) (ho : StoreV S w ov p.objects) (hu : MvsV S w uv p.updates) (ho2 : StoreV S' w ov2 q.objects) (hu2 : MvsV S' w uv2 q.updates) :
  Calls Tryz.prog 33 #[pshV p ov uv, pshV q ov2 uv2] w fun e w' => e = .returned (.bool (samePsh p q)) ∧ Below w.heap.size w w' := by
 have HD := Lib.hid (show samePsh p q = (sameStore p.objects q.objects && sameMvs p.updates q.updates && (p.force == q.force)) from rfl)
 have Ho := Lib.hid ho
 have Hu := Lib.hid hu
 have Ho2 := Lib.hid ho2
 have Hu2 := Lib.hid hu2
 obtain ⟨oa, oc, rfl⟩ := ho.vshape
 obtain ⟨⟨ua, uc⟩, rfl⟩ := hu.shape
 obtain ⟨oa2, oc2, rfl⟩ := ho2.vshape
 obtain ⟨⟨ua2, uc2⟩, rfl⟩ := hu2.shape
 clear ho hu ho2 hu2
 simp only [pshV]
 obtain ⟨Q, hQ, hQ1, hy, hz⟩ := cls_two w #[.slice oa p.objects.length oc, .slice ua p.updates.length uc, .bool p.force] #[.slice oa2 q.objects.length oc2, .slice ua2 q.updates.length uc2, .bool q.force] 26 26
 have hQb := hQ.below
 have hQn := hQ.next
 have H1 := Lib.hid (fun x (hx : In Q x) => sameStore_any p.objects q.objects _ _ _ _ x (Ho.out.below (hQb _ hx)) (Ho2.out.below (hQb _ hx)))
 have H2 := Lib.hid (fun x (hx : In Q x) => sameUpdates_any p.updates q.updates _ _ _ _ x (Hu.out.below (hQb _ hx)) (Hu2.out.below (hQb _ hx)))
 have y0 := hy 0 _ rfl _ hQ1
 have z0 := hz 0 _ rfl _ hQ1
 have y1 := hy 1 _ rfl
 have z1 := hz 1 _ rfl
 have y2 := hy 2 _ rfl
 have z2 := hz 2 _ rfl
 clear hy hz
 cases s1 : sameStore p.objects q.objects
 ·rw [s1] at H1 HD
  go_enter Tryz.func33, Tryz.ntmps33
  go_wp2_with fail
  refine (H1.out _ hQ1).mono ?_
  rintro e w1 ⟨rfl, hb1⟩
  have hQ2 := hQn _ _ hQ1 hb1
  go_wp2_with fail
  go_ret
  exact ⟨by rw [HD.out]; rfl, hQb _ hQ2⟩
 ·rw [s1] at H1 HD
  cases s2 : sameMvs p.updates q.updates
  ·rw [s2] at H2 HD
   go_enter Tryz.func33, Tryz.ntmps33
   go_wp2_with fail
   refine (H1.out _ hQ1).mono ?_
   rintro e w1 ⟨rfl, hb1⟩
   have hQ2 := hQn _ _ hQ1 hb1
   have y12 := y1 _ hQ2
   have z12 := z1 _ hQ2
   go_wp2_with fail
   refine (H2.out _ hQ2).mono ?_
   rintro e w2 ⟨rfl, hb2⟩
   have hQ3 := hQn _ _ hQ2 hb2
   go_wp2_with fail
   go_ret
   exact ⟨by rw [HD.out]; rfl, hQb _ hQ3⟩
  ·rw [s2] at H2 HD
   go_enter Tryz.func33, Tryz.ntmps33
   go_wp2_with fail
   refine (H1.out _ hQ1).mono ?_
   rintro e w1 ⟨rfl, hb1⟩
   have hQ2 := hQn _ _ hQ1 hb1
   have y12 := y1 _ hQ2
   have z12 := z1 _ hQ2
   go_wp2_with fail
   refine (H2.out _ hQ2).mono ?_
   rintro e w2 ⟨rfl, hb2⟩
   have hQ3 := hQn _ _ hQ2 hb2
   have y23 := y2 _ hQ3
   have z23 := z2 _ hQ3
   go_wp2_with fail
   go_ret
   exact ⟨by rw [HD.out]; rfl, hQb _ hQ3⟩
set_option maxRecDepth 100000 in
set_option maxHeartbeats 4000000 in
theorem sameReplica_any (p q : Rep) (sv rv ov uv sv2 rv2 ov2 uv2 : Value) (S S' : Nat → Prop) (w : World) (h : RepIs S w p sv rv ov uv) (h2 : RepIs S' w q sv2 rv2 ov2 uv2) :
  Calls Tryz.prog 32 #[repV p sv rv ov uv, repV q sv2 rv2 ov2 uv2] w fun e w' => e = .returned (.bool (sameRep p q)) ∧ Below w.heap.size w w' := by
 have HD := Lib.hid (show sameRep p q = (sameStore p.store q.store && sameRefs p.refs q.refs && (p.gen == q.gen) && (p.phase == q.phase) && samePsh p.pend q.pend) from rfl)
 have H := Lib.hid h
 have G := Lib.hid h2
 obtain ⟨sa, sc, rfl⟩ := h.store.vshape
 obtain ⟨⟨ra, rc⟩, rfl⟩ := h.refs.shape
 obtain ⟨oa, oc, rfl⟩ := h.objs.vshape
 obtain ⟨⟨ua, uc⟩, rfl⟩ := h.upds.shape
 obtain ⟨sa2, sc2, rfl⟩ := h2.store.vshape
 obtain ⟨⟨ra2, rc2⟩, rfl⟩ := h2.refs.shape
 obtain ⟨oa2, oc2, rfl⟩ := h2.objs.vshape
 obtain ⟨⟨ua2, uc2⟩, rfl⟩ := h2.upds.shape
 clear h h2
 simp only [repV]
 obtain ⟨Q, hQ, hQ1, hy, hz⟩ := cls_two w #[.slice sa p.store.length sc, .slice ra p.refs.length rc, .int .i64 p.gen, .int .i64 p.phase, .slice oa p.pend.objects.length oc, .slice ua p.pend.updates.length uc, .bool p.pend.force]
  #[.slice sa2 q.store.length sc2, .slice ra2 q.refs.length rc2, .int .i64 q.gen, .int .i64 q.phase, .slice oa2 q.pend.objects.length oc2, .slice ua2 q.pend.updates.length uc2, .bool q.pend.force] 28 28
 have hQb := hQ.below
 have hQn := hQ.next
 have H1 := Lib.hid (fun x (hx : In Q x) => sameStore_any p.store q.store _ _ _ _ x (H.out.store.below (hQb _ hx)) (G.out.store.below (hQb _ hx)))
 have H2 := Lib.hid (fun x (hx : In Q x) => sameRefs_any p.refs q.refs _ _ _ _ x (H.out.refs.below (hQb _ hx)) (G.out.refs.below (hQb _ hx)))
 have H3 := Lib.hid (fun x (hx : In Q x) => samePush_any p.pend q.pend _ _ _ _ _ _ x (H.out.objs.below (hQb _ hx)) (H.out.upds.below (hQb _ hx)) (G.out.objs.below (hQb _ hx)) (G.out.upds.below (hQb _ hx)))
 simp only [pshV] at H3
 have y0 := hy 0 _ rfl _ hQ1
 have z0 := hz 0 _ rfl _ hQ1
 have y1 := hy 1 _ rfl
 have z1 := hz 1 _ rfl
 have y2 := hy 2 _ rfl
 have z2 := hz 2 _ rfl
 have y3 := hy 3 _ rfl
 have z3 := hz 3 _ rfl
 have y4 := hy 4 _ rfl
 have z4 := hz 4 _ rfl
 have y5 := hy 5 _ rfl
 have z5 := hz 5 _ rfl
 have y6 := hy 6 _ rfl
 have z6 := hz 6 _ rfl
 clear hy hz
 cases s1 : sameStore p.store q.store
 ·rw [s1] at H1 HD
  go_enter Tryz.func32, Tryz.ntmps32
  go_wp2_with fail
  refine (H1.out _ hQ1).mono ?_
  rintro e w1 ⟨rfl, hbw1⟩
  have hQ2 := hQn _ _ hQ1 hbw1
  go_wp2_with fail
  go_ret
  exact ⟨by rw [HD.out]; rfl, hQb _ hQ2⟩
 ·rw [s1] at H1 HD
  cases s2 : sameRefs p.refs q.refs
  ·rw [s2] at H2 HD
   go_enter Tryz.func32, Tryz.ntmps32
   go_wp2_with fail
   refine (H1.out _ hQ1).mono ?_
   rintro e w1 ⟨rfl, hbw1⟩
   have hQ2 := hQn _ _ hQ1 hbw1
   have y1zhQ2 := y1 _ hQ2
   have z1zhQ2 := z1 _ hQ2
   go_wp2_with fail
   refine (H2.out _ hQ2).mono ?_
   rintro e w2 ⟨rfl, hbw2⟩
   have hQ3 := hQn _ _ hQ2 hbw2
   go_wp2_with fail
   go_ret
   exact ⟨by rw [HD.out]; rfl, hQb _ hQ3⟩
  ·rw [s2] at H2 HD
   cases s3 : (p.gen == q.gen)
   ·rw [s3] at HD
    go_enter Tryz.func32, Tryz.ntmps32
    go_wp2_with fail
    refine (H1.out _ hQ1).mono ?_
    rintro e w1 ⟨rfl, hbw1⟩
    have hQ2 := hQn _ _ hQ1 hbw1
    have y1zhQ2 := y1 _ hQ2
    have z1zhQ2 := z1 _ hQ2
    go_wp2_with fail
    refine (H2.out _ hQ2).mono ?_
    rintro e w2 ⟨rfl, hbw2⟩
    have hQ3 := hQn _ _ hQ2 hbw2
    have y2zhQ3 := y2 _ hQ3
    have z2zhQ3 := z2 _ hQ3
    go_wp2_with fail
    go_ret
    exact ⟨by rw [HD.out]; rfl, hQb _ hQ3⟩
   ·rw [s3] at HD
    cases s4 : (p.phase == q.phase)
    ·rw [s4] at HD
     go_enter Tryz.func32, Tryz.ntmps32
     go_wp2_with fail
     refine (H1.out _ hQ1).mono ?_
     rintro e w1 ⟨rfl, hbw1⟩
     have hQ2 := hQn _ _ hQ1 hbw1
     have y1zhQ2 := y1 _ hQ2
     have z1zhQ2 := z1 _ hQ2
     go_wp2_with fail
     refine (H2.out _ hQ2).mono ?_
     rintro e w2 ⟨rfl, hbw2⟩
     have hQ3 := hQn _ _ hQ2 hbw2
     have y2zhQ3 := y2 _ hQ3
     have z2zhQ3 := z2 _ hQ3
     have y3zhQ3 := y3 _ hQ3
     have z3zhQ3 := z3 _ hQ3
     go_wp2_with fail
     go_ret
     exact ⟨by rw [HD.out]; rfl, hQb _ hQ3⟩
    ·rw [s4] at HD
     go_enter Tryz.func32, Tryz.ntmps32
     go_wp2_with fail
     refine (H1.out _ hQ1).mono ?_
     rintro e w1 ⟨rfl, hbw1⟩
     have hQ2 := hQn _ _ hQ1 hbw1
     have y1zhQ2 := y1 _ hQ2
     have z1zhQ2 := z1 _ hQ2
     go_wp2_with fail
     refine (H2.out _ hQ2).mono ?_
     rintro e w2 ⟨rfl, hbw2⟩
     have hQ3 := hQn _ _ hQ2 hbw2
     have y2zhQ3 := y2 _ hQ3
     have z2zhQ3 := z2 _ hQ3
     have y3zhQ3 := y3 _ hQ3
     have z3zhQ3 := z3 _ hQ3
     have y4zhQ3 := y4 _ hQ3
     have z4zhQ3 := z4 _ hQ3
     have y5zhQ3 := y5 _ hQ3
     have z5zhQ3 := z5 _ hQ3
     have y6zhQ3 := y6 _ hQ3
     have z6zhQ3 := z6 _ hQ3
     go_wp2_with fail
     refine (H3.out _ hQ3).mono ?_
     rintro e w3 ⟨rfl, hbw3⟩
     have hQ4 := hQn _ _ hQ3 hbw3
     go_wp2_with fail
     go_ret
     exact ⟨by rw [HD.out]; rfl, hQb _ hQ4⟩
end Go.Proofs.YtjdgpgfiomnjkaaGreatDoor
namespace Go.Proofs.YtjdgpgfiomnjkaaGreatDoor
open Go.RowKit
set_option linter.unusedVariables false
set_option linter.unusedSimpArgs false
set_option linter.unusedSectionVars false
variable [Ghost]
theorem RefsV.bytes {S : Nat → Prop} {w : World} {v : Value} {l : List Rf} (h : RefsV S w v l) : l.length * 24 ≤ 140737488351232 :=
 let ⟨⟨_, _, _, _, _, h3, _⟩, _⟩ := h; h3
def RetRepE (w w' : World) (e : Ending) (r : Rep) (c : Int) : Prop := ∃ sv rv ov uv, e = .returned (.tuple #[repV r sv rv ov uv, .int .i64 c]) ∧ RepIs (fun _ => True) w' r sv rv ov uv ∧ Below w.heap.size w w'
def RetRepF (w w' : World) (e : Ending) (r : Rep) (c : Int) : Prop := ∃ sv rv ov uv, e = .returned (.tuple #[repV r sv rv ov uv, .int .i64 c]) ∧ RepIs (fun b => w.heap.size ≤ b) w' r sv rv ov uv ∧ Below w.heap.size w w'
theorem RetRepF.e {w w' : World} {e : Ending} {r : Rep} {c : Int} (h : RetRepF w w' e r c) : RetRepE w w' e r c := let ⟨_, _, _, _, h1, h2, h3⟩ := h; ⟨_, _, _, _, h1, h2.weaken fun _ _ => trivial, h3⟩
def RetRepA (A : Nat → Prop) (w w' : World) (e : Ending) (r : Rep) (c : Int) : Prop := ∃ sv rv ov uv, e = .returned (.tuple #[repV r sv rv ov uv, .int .i64 c]) ∧ RepIs (fun b => A b ∨ w.heap.size ≤ b) w' r sv rv ov uv ∧ Below w.heap.size w w'
theorem RetRepA.e {A : Nat → Prop} {w w' : World} {e : Ending} {r : Rep} {c : Int} (h : RetRepA A w w' e r c) : RetRepE w w' e r c := let ⟨_, _, _, _, h1, h2, h3⟩ := h; ⟨_, _, _, _, h1, h2.weaken fun _ _ => trivial, h3⟩
theorem rep0_is (S : Nat → Prop) (w : World) : RepIs S w rep0 (.slice none 0 0) (.slice none 0 0) (.slice none 0 0) (.slice none 0 0) :=
 ⟨StoreV.nil _ _ _ _ (by omega), RefsV.nil _ _ _ _ (by omega), StoreV.nil _ _ _ _ (by omega), MvsV.nil _ _ _ _ (by omega), by unfold I64; decide, by unfold I64; decide⟩
theorem foldl_below : ∀ (os : List Go.Obj) (w : World), Below w.heap.size w (os.foldl World.alloc w)
 | [], w => Below.refl _ _
 | o :: os, w => Below.trans ((Below.refl w.heap.size w).alloc (Nat.le_refl _) o) ((foldl_below os (w.alloc o)).mono (by simp))
theorem foldl_size : ∀ (os : List Go.Obj) (w : World), (os.foldl World.alloc w).heap.size = w.heap.size + os.length
 | [], w => rfl
 | o :: os, w => by rw [List.foldl_cons, foldl_size os]; simp; omega
theorem foldl_get : ∀ (os : List Go.Obj) (w : World) (j : Nat) (o : Go.Obj), os[j]? = some o → (os.foldl World.alloc w).heap[w.heap.size + j]? = some o
 | [], w, j, o, h => by simp at h
 | o' :: os, w, 0, o, h => by
  obtain rfl : o' = o := by simpa using h
  rw [List.foldl_cons, (foldl_below os (w.alloc o')).block _ (by simp)]
  exact heap_alloc_new w o'
 | o' :: os, w, j + 1, o, h => by
  have := foldl_get os (w.alloc o') j o (by simpa using h)
  rw [List.foldl_cons, show w.heap.size + (j + 1) = (w.alloc o').heap.size + j by simp; omega]
  exact this
theorem cls_allocs (w : World) (os : List Go.Obj) : ∃ R : World → Prop, Cls w R ∧ In R (os.foldl World.alloc w) ∧ ∀ x, In R x → ∀ j o, os[j]? = some o → x.heap[w.heap.size + j]? = some o := by
 refine ⟨_, cls_of w (os.foldl World.alloc w) (w.heap.size + os.length) (by omega) (by rw [foldl_size]; exact Nat.le_refl _) (foldl_below os w), Below.refl _ _, fun x hx j o hj => ?_⟩
 have hlt := (List.getElem?_eq_some_iff.1 hj).1
 rw [Below.block hx _ (by omega)]
 exact foldl_get os w j o hj
theorem RepIs.lt {S : Nat → Prop} {w : World} {r : Rep} {sv rv ov uv : Value} (h : RepIs S w r sv rv ov uv) : RepIs (fun b => S b ∧ b < w.heap.size) w r sv rv ov uv :=
 ⟨h.store.lt, h.refs.lt, h.objs.lt, h.upds.lt, h.gen, h.phase⟩
theorem RepIs.upd {S T : Nat → Prop} {w w' : World} {r : Rep} {sv rv ov uv : Value} (h : RepIs S w r sv rv ov uv) (hu : Upd T w w') (hT : ∀ b, S b → ¬ T b) : RepIs S w' r sv rv ov uv :=
 ⟨h.store.upd' hu hT, h.refs.upd hu hT, h.objs.upd' hu hT, h.upds.upd hu hT, h.gen, h.phase⟩
end Go.Proofs.YtjdgpgfiomnjkaaGreatDoor
namespace Go.Proofs.YtjdgpgfiomnjkaaGreatDoor
open Go.RowKit
set_option linter.unusedVariables false
set_option linter.unusedSimpArgs false
set_option linter.unusedSectionVars false
variable [Ghost]
theorem mvs_news {S : Nat → Prop} {w : World} {a : Option Addr} {n cap : Nat} {l : List Mv} (h : MvsV S w (.slice a n cap) l) (hn : 0 < l.length) :
  ∃ ad, a = some ad ∧ ∀ j u, (flat (fun i => mvCells (mv l i)) l.length)[j]? = some u → w.cell? (ad.add j) = some u := by
 obtain ⟨⟨a', cap', hv, h1, h2, h3, h4⟩, _⟩ := h
 cases hv
 obtain ⟨b, off, rfl, hb, hc⟩ := h4 hn
 refine ⟨_, rfl, fun j u hu => ?_⟩
 have hj : j < l.length * 3 := by
  rcases Nat.lt_or_ge j (l.length * 3) with h | h
  ·exact h
  ·rw [List.getElem?_eq_none (by rw [flat_length (sz := 3) fun _ _ => rfl]; exact h)] at hu; cases hu
 have hi' : j / 3 < l.length := by omega
 have hm : j % 3 < (mvCells (mv l (j / 3))).length := by show j % 3 < 3; omega
 have e := flat_get (cs := fun i => mvCells (mv l i)) (sz := 3) (n := l.length) (fun _ _ => rfl) (j / 3) hi' (j % 3) _ (List.getElem?_eq_getElem hm)
 rw [show j / 3 * 3 + j % 3 = j by omega, hu] at e
 have := hc (j / 3) hi' (j % 3) u (by show (mvCells (mv l (j / 3)))[j % 3]? = some u; rw [List.getElem?_eq_getElem hm]; exact e.symm)
 rw [show (⟨b, off, none⟩ : Addr).add j = ⟨b, off + j, none⟩ by unfold Addr.add; split <;> simp_all]
 rw [show off + j = off + j / 3 * 3 + j % 3 by omega]; exact this
theorem one_flat_mv (l : List Mv) : ∀ u ∈ flat (fun i => mvCells (mv l i)) l.length, u.oneCell' = true := one_flat fun _ _ => one_mv _
theorem appendMvs_row {B : Nat} {w : World} {v mv : Value} {l more : List Mv} {S : Nat → Prop} (ty : TypeId) (hG : OwnU B w v l) (h : MvsV S w mv more)
  (hl : (l.length + more.length) * 32 ≤ 140737488351232) (hB : B ≤ w.heap.size) :
  ∃ v' x, (Builtin.append_ #[24, 24] ty #[v, mv]).run Tryz.prog w = .ok v' x ∧ OwnU B x v' (l ++ more) ∧ Upd (fun b => v.ownBlock = some b) w x := by
 obtain ⟨i0, hi, hz0, hz1, hz2⟩ := info_parts Tryz.infoUpd
 have hG' := hG
 obtain ⟨hown, hok⟩ := hG
 have h' := h
 obtain ⟨⟨a, cap, rfl, hc1, hc2, hc3, _⟩, hok2⟩ := h
 have hok3 : ∀ r ∈ l ++ more, MvOk r := fun r hr => by
  rcases List.mem_append.1 hr with hr | hr
  ·exact hok r hr
  ·exact hok2 r hr
 by_cases h0 : more.length = 0
 ·obtain rfl : more = [] := List.length_eq_zero_iff.1 h0
  obtain ⟨base, sc, hv, hle⟩ : ∃ base sc, v = .slice base l.length sc ∧ l.length ≤ sc := by
   rcases hown.2 with ⟨rfl, hn⟩ | ⟨g, c, cur, rfl, _, _, hn, _⟩
   ·exact ⟨none, 0, by rw [hn], by omega⟩
   ·exact ⟨_, _, rfl, hn⟩
  subst hv
  refine ⟨_, w, run_append_nothing _ 24 24 ty 107 i0 Tryz.underlying24 hi base l.length sc hle _
   ⟨.inl ⟨_, Tryz.underlying24⟩, fun w' => by simp [Builtin.lenOf], by cases a <;> simp [Builtin.firstCells] <;> rfl, by cases a <;> simp [Builtin.firstCells] <;> rfl, by simp, by simp⟩, ?_, Upd.refl _ _⟩
  rw [List.append_nil]; exact hG'
 ·obtain ⟨ad, rfl, hnews⟩ := mvs_news h' (by omega)
  obtain ⟨g, c, x, hr, ho, hg, hor, hlt⟩ := run_append_lies (P := Tryz.prog) w 24 ty B 107 i0 _ 3 32 Tryz.underlying24 hi hz0 hz1 hz2 rfl (by omega) v l.length _ hown ad more.length cap
   (flat (fun i => mvCells (mv more i)) more.length) (flat_length fun _ _ => rfl) hnews (one_flat_mv _) (by omega) (by unfold maxLen; omega) (by omega) hB _ rfl
  refine ⟨_, x, hr, ⟨?_, hok3⟩, Upd.grown (Upd.refl _ _) hg (fun k hk _ => hk)⟩
  rw [List.length_append, flat_add]
  have e1 : flat (fun i => mvCells (mv (l ++ more) i)) l.length = flat (fun i => mvCells (mv l i)) l.length :=
   flat_congr fun i hi => by
    have : mv (l ++ more) i = mv l i := by unfold mv at_; simp only [List.getD_eq_getElem?_getD, List.getElem?_append_left hi]
    rw [this]
  have e2 : flat (fun j => mvCells (mv (l ++ more) (l.length + j))) more.length = flat (fun i => mvCells (mv more i)) more.length :=
   flat_congr fun i hi => by
    have : mv (l ++ more) (l.length + i) = mv more i := by
     unfold mv at_; simp only [List.getD_eq_getElem?_getD]
     rw [List.getElem?_append_right (by omega), show l.length + i - l.length = i by omega]
    rw [this]
  rw [e1, e2]; exact ho
theorem ownU_empty (w : World) : OwnU w.heap.size (w.alloc (.cells #[] 107)) (.slice (some ⟨w.heap.size, 0, none⟩) 0 0) [] :=
 ⟨World.ownsRow_made w #[] 0 (Nat.le_refl _) (Nat.zero_le _) (by simp), fun r h => by cases h⟩
set_option maxHeartbeats 1000000 in
theorem cloneMvs_any (l : List Mv) (v : Value) (S : Nat → Prop) (w : World) (h : MvsV S w v l) :
  Calls Tryz.prog 142 #[v] w fun e w' => ∃ v', e = .returned v' ∧ OwnU w.heap.size w' v' l ∧ Below w.heap.size w w' := by
 have h' := h
 obtain ⟨a, n, cap, HN, rfl, h1, h2, h3, h4⟩ := h.open
 clear h4 h
 have q22 : ∀ (w : World) (a : Option Addr) (n c n' c' : Nat), (binOp .eql 24 (.slice a n c) (.slice none n' c')).run Tryz.prog w = .ok (.bool a.isNone) w := fun w a n c n' c' => Lib.run_eql_slice_nil w _ _ a n c n' c' Tryz.underlying24
 cases a with
 | none =>
  have hl0 : l = [] := by
   obtain ⟨⟨a, cap, e, _, _, _, h4⟩, _⟩ := h'
   cases e
   rcases Nat.eq_zero_or_pos l.length with h | h
   ·exact List.length_eq_zero_iff.1 h
   ·obtain ⟨b, off, e, _⟩ := h4 h; cases e
  subst hl0
  go_enter Tryz.func142, Tryz.ntmps142
  go_wp2_with fail
  go_ret
  exact ⟨_, rfl, OwnU.nil _ _, Below.refl _ _⟩
 | some ad =>
  have hB0 : Below w.heap.size w (w.alloc (.cells #[] 107)) := (Below.refl _ _).alloc (Nat.le_refl _) _
  obtain ⟨v1, x1, hr1, ho1, hu1⟩ := appendMvs_row (l := []) 24 (ownU_empty w) (h'.below hB0) (by have := HN.out; simp; omega) hB0.size
  have hB1 : Below w.heap.size w x1 := hB0.trans (hu1.below (B := w.heap.size) hB0.size (fun b hb => ((ownU_empty w).block hb).1))
  rw [List.nil_append] at ho1
  have HE := Lib.hid (And.intro ho1 hB1)
  obtain ⟨a1, c1, rfl⟩ := ho1.shape
  clear ho1 hB1 hu1 hB0 h'
  go_enter Tryz.func142, Tryz.ntmps142
  go_wp2_with (at_builtin; refine wpList_append_run rfl (.tmp 5) (.tmp 6) 24 rfl _ _ _ rfl rfl hr1 ?_)
  go_ret
  exact ⟨_, rfl, HE.out.1, HE.out.2⟩
theorem MvsV.bytes {S : Nat → Prop} {w : World} {v : Value} {l : List Mv} (h : MvsV S w v l) : l.length * 32 ≤ 140737488351232 :=
 let ⟨⟨_, _, _, _, _, h3, _⟩, _⟩ := h; h3
end Go.Proofs.YtjdgpgfiomnjkaaGreatDoor
