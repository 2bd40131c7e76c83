
/- DeskA: acts; walk of desk.clerk.form. -/
import Derived.Test.YtjdgpgfiomnjkaaGreatDoorM20
import Derived.Test.YtjdgpgfiomnjkaaGreatDoorM21
import Derived.Deep.DeepCutAuto
namespace Go.Proofs.YtjdgpgfiomnjkaaGreatDoor
open Go.RowKit
set_option linter.unusedVariables false
set_option linter.unusedSimpArgs false
structure Ac where
 kind : Int
 on : Int
 up : Int
 late : Int
 push : Psh
def actV (a : Ac) (ov uv : Value) : Value := .agg #[.int .i64 a.kind, .int .i64 a.on, .int .i64 a.up, .int .i64 a.late, ov, uv, .bool a.push.force]
structure ActIs (S : Nat → Prop) (w : World) (a : Ac) (ov uv : Value) : Prop where
 objs : StoreV S w ov a.push.objects
 upds : MvsV S w uv a.push.updates
 kind : I64 a.kind
 on : I64 a.on
 up : I64 a.up
 late : I64 a.late
theorem ActIs.below {S : Nat → Prop} {w w' : World} {a : Ac} {ov uv : Value} (h : ActIs S w a ov uv) (hb : Below w.heap.size w w') : ActIs S w' a ov uv := ⟨h.objs.below hb, h.upds.below hb, h.kind, h.on, h.up, h.late⟩
theorem ActIs.weaken {S S' : Nat → Prop} {w : World} {a : Ac} {ov uv : Value} (h : ActIs S w a ov uv) (hs : ∀ b, S b → S' b) : ActIs S' w a ov uv := ⟨h.objs.weaken hs, h.upds.weaken hs, h.kind, h.on, h.up, h.late⟩
def formE (a : Ac) : Int :=
 if a.kind < 1 ∨ 3 < a.kind then 7 else if (a.kind = 1 ∧ a.on ≠ 0) ∨ (a.kind ≠ 1 ∧ (emptyB a.push = false ∨ a.up ≠ 0 ∨ a.late ≠ 0)) then 1 else if a.on < 0 ∨ 3 ≤ a.on then 3 else 0
theorem empty_no0 {p : Psh} (h : p.objects.length ≠ 0) : emptyB p = false := by unfold emptyB; rw [decide_eq_false h]; rfl
theorem empty_no1 {p : Psh} (h : p.updates.length ≠ 0) : emptyB p = false := by unfold emptyB; rw [decide_eq_false h]; simp
theorem empty_is {p : Psh} (h0 : p.objects.length = 0) (h1 : p.updates.length = 0) : emptyB p = !p.force := by unfold emptyB; rw [decide_eq_true h0, decide_eq_true h1]; simp
set_option maxRecDepth 100000 in
set_option maxHeartbeats 16000000 in
theorem form_any (K : Nat) (sa : Option Addr) (sc : Nat) (told : Bool) (a : Ac) (ov uv : Value) (S : Nat → Prop) (w : World) (hK : w.heap[K]? = some (.cells #[.slice sa 3 sc, .bool told] 145 (0, 0))) (ha : ActIs S w a ov uv) :
  Calls Tryz.prog 161 #[.pointer (some ⟨K, 0, none⟩), actV a ov uv] w fun e w' => e = .returned (.int .i64 (formE a)) ∧ Below w.heap.size w w' := by
 obtain ⟨oa, oc, rfl⟩ := ha.objs.vshape
 obtain ⟨⟨ua, uc⟩, rfl⟩ := ha.upds.shape
 have HF := Lib.hid (show formE a = if a.kind < 1 ∨ 3 < a.kind then 7 else if (a.kind = 1 ∧ a.on ≠ 0) ∨ (a.kind ≠ 1 ∧ (emptyB a.push = false ∨ a.up ≠ 0 ∨ a.late ≠ 0)) then 1 else if a.on < 0 ∨ 3 ≤ a.on then 3 else 0 from rfl)
 obtain ⟨R, hR, hR1, HB0⟩ := cls_allocs w [.cells #[.int .i64 a.kind, .int .i64 a.on, .int .i64 a.up, .int .i64 a.late, .slice oa a.push.objects.length oc, .slice ua a.push.updates.length uc, .bool a.push.force] 68, .cells #[.slice oa a.push.objects.length oc, .slice ua a.push.updates.length uc, .bool a.push.force] 26]
 simp only [List.foldl] at hR1
 have hRb := hR.below
 have hRn := hR.next
 have a0 := fun x (hx : In R x) => block_cell (j := 0) (HB0 x hx 0 _ rfl) rfl
 have a1 := fun x (hx : In R x) => block_cell (j := 1) (HB0 x hx 0 _ rfl) rfl
 have a2 := fun x (hx : In R x) => block_cell (j := 2) (HB0 x hx 0 _ rfl) rfl
 have a3 := fun x (hx : In R x) => block_cell (j := 3) (HB0 x hx 0 _ rfl) rfl
 have a4 := fun x (hx : In R x) => block_cell (j := 4) (HB0 x hx 0 _ rfl) rfl
 have a5 := fun x (hx : In R x) => block_cell (j := 5) (HB0 x hx 0 _ rfl) rfl
 have a6 := fun x (hx : In R x) => block_cell (j := 6) (HB0 x hx 0 _ rfl) rfl
 simp only [Nat.add_zero] at a0 a1 a2 a3 a4 a5 a6
 have q0 := fun x (hx : In R x) => block_cell (j := 0) (HB0 x hx 1 _ rfl) rfl
 have q1 := fun x (hx : In R x) => block_cell (j := 1) (HB0 x hx 1 _ rfl) rfl
 have q2 := fun x (hx : In R x) => block_cell (j := 2) (HB0 x hx 1 _ rfl) rfl
 have k0 := fun x (hx : In R x) => below_cell (hRb _ hx) (block_cell (j := 0) hK rfl)
 clear HB0 ha hK
 simp only [actV]
 go_enter Tryz.func161, Tryz.ntmps161
 go_upto_region 2 with fail
 generalize ((w.alloc (.cells #[.int .i64 a.kind, .int .i64 a.on, .int .i64 a.up, .int .i64 a.late, .slice oa a.push.objects.length oc, .slice ua a.push.updates.length uc, .bool a.push.force] 68)).alloc (.cells #[.slice oa a.push.objects.length oc, .slice ua a.push.updates.length uc, .bool a.push.force] 26)) = w2 at *
 have u0 := q0 _ hR1
 have u1 := q1 _ hR1
 have u2 := q2 _ hR1
 go_cut [6] (fun s6 wx => s6 = .bool (emptyB a.push) ∧ wx = w2)
 case first =>
  generalize hno : a.push.objects.length = no at *
  generalize hnu : a.push.updates.length = nu at *
  have Hno := Lib.hid hno
  have Hnu := Lib.hid hnu
  clear hno hnu
  by_cases h0 : no = 0
  case neg =>
   have HR := Lib.hid (show emptyB a.push = false from empty_no0 (by rw [Hno.out]; exact h0))
   have qq : ((no : Int) == 0) = false := by simp; omega
   clear h0
   go_wp2_with fail
   go_meet
   exact ⟨by rw [HR.out], rfl⟩
  case pos =>
   have H0 := Lib.hid h0
   have qq : ((no : Int) == 0) = true := by simp; omega
   clear h0
   by_cases h1 : nu = 0
   case neg =>
    have HR := Lib.hid (show emptyB a.push = false from empty_no1 (by rw [Hnu.out]; exact h1))
    have qq1 : ((nu : Int) == 0) = false := by simp; omega
    clear h1
    go_wp2_with fail
    go_meet
    exact ⟨by rw [HR.out], rfl⟩
   case pos =>
    have HR := Lib.hid (show emptyB a.push = !a.push.force from empty_is (by rw [Hno.out]; exact H0.out) (by rw [Hnu.out]; exact h1))
    have qq1 : ((nu : Int) == 0) = true := by simp; omega
    clear h1
    go_wp2_with fail
    go_meet
    exact ⟨by rw [HR.out], rfl⟩
 case rest =>
  obtain ⟨rfl, rfl⟩ := hcut
  clear u0 u1 u2 q0 q1 q2
  have v0 := a0 _ hR1
  have v1 := a1 _ hR1
  have v2 := a2 _ hR1
  have v3 := a3 _ hR1
  generalize hnb : emptyB a.push = nb at *
  clear hnb
  have HE := Lib.hid (hRb _ hR1)
  generalize hkd : a.kind = kd at *
  generalize hon : a.on = on at *
  generalize hup : a.up = up at *
  generalize hla : a.late = la at *
  clear hkd hon hup hla
  by_cases g1 : kd < 1
  case pos =>
   have HC := Lib.hid (show formE a = 7 by rw [HF.out, if_pos (.inl g1)])
   clear HF
   go_wp2_with fail
   go_ret
   exact ⟨ret_int HC.out.symm, HE.out⟩
  by_cases g2 : 3 < kd
  case pos =>
   have HC := Lib.hid (show formE a = 7 by rw [HF.out, if_pos (.inr g2)])
   clear HF
   go_wp2_with fail
   go_ret
   exact ⟨ret_int HC.out.symm, HE.out⟩
  have hk := Lib.hid (show ¬ (kd < 1 ∨ 3 < kd) from by omega)
  by_cases g3 : kd = 1
  case pos =>
   have qk : (kd == 1) = true := by simpa using g3
   have qk2 : (kd != 1) = false := by simpa using g3
   by_cases g4 : on = 0
   case neg =>
    have qo : (on != 0) = true := by simpa using g4
    have HC := Lib.hid (show formE a = 1 by rw [HF.out, if_neg hk.out, if_pos (.inl ⟨g3, g4⟩)])
    clear HF
    go_wp2_with fail
    go_ret
    exact ⟨ret_int HC.out.symm, HE.out⟩
   case pos =>
    have qo : (on != 0) = false := by simpa using g4
    have hs := Lib.hid (show ¬ ((kd = 1 ∧ on ≠ 0) ∨ (kd ≠ 1 ∧ (nb = false ∨ up ≠ 0 ∨ la ≠ 0))) from fun h => h.elim (fun h => h.2 g4) (fun h => h.1 g3))
    have g40 := Lib.hid g4
    have hon0 : ¬ on < 0 := by omega
    have hon3 : ¬ 3 ≤ on := by omega
    clear g3 g4
    by_cases g8 : on < 0
    case pos =>
     exact absurd g8 hon0
    case neg =>
     go_upto_region 8 with fail
     clear v0 v1 v2 v3
     refine wp_region_held (S := In R) (by kernel_rfl) ?_
     change wpAnyH _ _ _ _ _ _ _ _ (World.drew _)
     have hC0 := hR.drew _ hR1
     generalize hx0 : wc.drew = x0 at hC0 ⊢
     clear hx0
     by_cases g9 : 3 ≤ on
     case pos =>
      exact absurd g9 hon3
     case neg =>
      have HC := Lib.hid (show formE a = 0 by rw [HF.out, if_neg hk.out, if_neg hs.out, if_neg (by omega)])
      clear HF
      refine wpAnyH_take (i := 0) (v := .pointer (some ⟨w.heap.size, 1, none⟩)) rfl (by kernel_rfl) (by kernel_rfl) (by kernel_rfl) (fun _ _ _ h => h) (Or.inl ⟨by rfl, fun w hSw => ?_⟩) hC0 ?_
      ·go_simp
      simp only [Act.put, List.getElem_toArray, List.getElem_cons_zero, List.getElem_cons_succ, List.setIfInBounds_toArray, List.set_cons_zero, List.set_cons_succ]
      refine wpAnyH_take (i := 1) (v := .int .i64 on) rfl (by kernel_rfl) (by kernel_rfl) (by kernel_rfl) (fun _ _ _ h => h) (Or.inl ⟨by rfl, fun w hSw => ?_⟩) hC0 ?_
      ·have yy := a1 _ hSw; go_simp
      simp only [Act.put, List.getElem_toArray, List.getElem_cons_zero, List.getElem_cons_succ, List.setIfInBounds_toArray, List.set_cons_zero, List.set_cons_succ]
      refine wpAnyH_take (i := 2) (v := .bool false) rfl (by kernel_rfl) (by kernel_rfl) (by kernel_rfl) (fun _ _ _ h => h) (Or.inl ⟨by rfl, fun w hSw => ?_⟩) hC0 ?_
      ·go_simp
      simp only [Act.put, List.getElem_toArray, List.getElem_cons_zero, List.getElem_cons_succ, List.setIfInBounds_toArray, List.set_cons_zero, List.set_cons_succ]
      refine wpAnyH_take (i := 3) (v := .bool false) rfl (by kernel_rfl) (by kernel_rfl) (by kernel_rfl) (fun _ _ _ h => h) (Or.inl ⟨by rfl, fun w hSw => ?_⟩) hC0 ?_
      ·go_simp
      simp only [Act.put, List.getElem_toArray, List.getElem_cons_zero, List.getElem_cons_succ, List.setIfInBounds_toArray, List.set_cons_zero, List.set_cons_succ]
      refine wpAnyH_take (i := 4) (v := .pointer (some ⟨w.heap.size, 1, none⟩)) rfl (by kernel_rfl) (by kernel_rfl) (by kernel_rfl) (fun _ _ _ h => h) (Or.inl ⟨by rfl, fun w hSw => ?_⟩) hC0 ?_
      ·go_simp
      simp only [Act.put, List.getElem_toArray, List.getElem_cons_zero, List.getElem_cons_succ, List.setIfInBounds_toArray, List.set_cons_zero, List.set_cons_succ]
      refine wpAnyH_take (i := 5) (v := .int .i64 on) rfl (by kernel_rfl) (by kernel_rfl) (by kernel_rfl) (fun _ _ _ h => h) (Or.inl ⟨by rfl, fun w hSw => ?_⟩) hC0 ?_
      ·have yy := a1 _ hSw; go_simp
      simp only [Act.put, List.getElem_toArray, List.getElem_cons_zero, List.getElem_cons_succ, List.setIfInBounds_toArray, List.set_cons_zero, List.set_cons_succ]
      refine wpAnyH_take (i := 6) (v := .pointer (some ⟨K, 0, none⟩)) rfl (by kernel_rfl) (by kernel_rfl) (by kernel_rfl) (fun _ _ _ h => h) (Or.inl ⟨by rfl, fun w hSw => ?_⟩) hC0 ?_
      ·go_simp
      simp only [Act.put, List.getElem_toArray, List.getElem_cons_zero, List.getElem_cons_succ, List.setIfInBounds_toArray, List.set_cons_zero, List.set_cons_succ]
      refine wpAnyH_take (i := 7) (v := .pointer (some ⟨K, 0, none⟩)) rfl (by kernel_rfl) (by kernel_rfl) (by kernel_rfl) (fun _ _ _ h => h) (Or.inl ⟨by rfl, fun w hSw => ?_⟩) hC0 ?_
      ·go_simp
      simp only [Act.put, List.getElem_toArray, List.getElem_cons_zero, List.getElem_cons_succ, List.setIfInBounds_toArray, List.set_cons_zero, List.set_cons_succ]
      refine wpAnyH_take (i := 8) (v := .pointer (some ⟨K, 0, none⟩)) rfl (by kernel_rfl) (by kernel_rfl) (by kernel_rfl) (fun _ _ _ h => h) (Or.inl ⟨by rfl, fun w hSw => ?_⟩) hC0 ?_
      ·go_simp
      simp only [Act.put, List.getElem_toArray, List.getElem_cons_zero, List.getElem_cons_succ, List.setIfInBounds_toArray, List.set_cons_zero, List.set_cons_succ]
      refine wpAnyH_take (i := 9) (v := .pointer (some ⟨K, 0, none⟩)) rfl (by kernel_rfl) (by kernel_rfl) (by kernel_rfl) (fun _ _ _ h => h) (Or.inl ⟨by rfl, fun w hSw => ?_⟩) hC0 ?_
      ·go_simp
      simp only [Act.put, List.getElem_toArray, List.getElem_cons_zero, List.getElem_cons_succ, List.setIfInBounds_toArray, List.set_cons_zero, List.set_cons_succ]
      refine wpAnyH_take (i := 10) (v := .slice sa 3 sc) rfl (by kernel_rfl) (by kernel_rfl) (by kernel_rfl) (fun _ _ _ h => h) (Or.inl ⟨by rfl, fun w hSw => ?_⟩) hC0 ?_
      ·have yy := k0 _ hSw; go_simp
      simp only [Act.put, List.getElem_toArray, List.getElem_cons_zero, List.getElem_cons_succ, List.setIfInBounds_toArray, List.set_cons_zero, List.set_cons_succ]
      refine wpAnyH_take (i := 11) (v := .int .i64 3) rfl (by kernel_rfl) (by kernel_rfl) (by kernel_rfl) (fun _ _ _ h => h) (Or.inl ⟨by rfl, fun w hSw => ?_⟩) hC0 ?_
      ·go_simp
      simp only [Act.put, List.getElem_toArray, List.getElem_cons_zero, List.getElem_cons_succ, List.setIfInBounds_toArray, List.set_cons_zero, List.set_cons_succ]
      refine wpAnyH_take (i := 12) (v := .bool false) rfl (by kernel_rfl) (by kernel_rfl) (by kernel_rfl) (fun _ _ _ h => h) (Or.inl ⟨by rfl, fun w hSw => ?_⟩) hC0 ?_
      ·go_simp
      simp only [Act.put, List.getElem_toArray, List.getElem_cons_zero, List.getElem_cons_succ, List.setIfInBounds_toArray, List.set_cons_zero, List.set_cons_succ]
      refine wpAnyH_take (i := 13) (v := .bool false) rfl (by kernel_rfl) (by kernel_rfl) (by kernel_rfl) (fun _ _ _ h => h) (Or.inl ⟨by rfl, fun w hSw => ?_⟩) hC0 ?_
      ·go_simp
      simp only [Act.put, List.getElem_toArray, List.getElem_cons_zero, List.getElem_cons_succ, List.setIfInBounds_toArray, List.set_cons_zero, List.set_cons_succ]
      refine wpAnyH_take (i := 14) (v := .bool false) rfl (by kernel_rfl) (by kernel_rfl) (by kernel_rfl) (fun _ _ _ h => h) (Or.inl ⟨by rfl, fun w hSw => ?_⟩) hC0 ?_
      ·go_simp
      simp only [Act.put, List.getElem_toArray, List.getElem_cons_zero, List.getElem_cons_succ, List.setIfInBounds_toArray, List.set_cons_zero, List.set_cons_succ]
      refine wpAnyH_done (by kernel_rfl) ?_ _
      have HE2 := Lib.hid (hRb _ hC0)
      go_wp2_with fail
      go_ret
      exact ⟨ret_int HC.out.symm, HE2.out⟩
  case neg =>
   have qk : (kd == 1) = false := by simpa using g3
   have qk2 : (kd != 1) = true := by simpa using g3
   have g30 := Lib.hid g3
   clear g3
   cases nb
   case false =>
    have HC := Lib.hid (show formE a = 1 by rw [HF.out, if_neg hk.out, if_pos (.inr ⟨g30.out, .inl rfl⟩)])
    clear HF
    go_wp2_with fail
    go_ret
    exact ⟨ret_int HC.out.symm, HE.out⟩
   case true =>
    by_cases g5 : up = 0
    case neg =>
     have qu : (up != 0) = true := by simpa using g5
     have HC := Lib.hid (show formE a = 1 by rw [HF.out, if_neg hk.out, if_pos (.inr ⟨g30.out, .inr (.inl g5)⟩)])
     clear HF
     go_wp2_with fail
     go_ret
     exact ⟨ret_int HC.out.symm, HE.out⟩
    case pos =>
     have qu : (up != 0) = false := by simpa using g5
     have g50 := Lib.hid g5
     clear g5
     by_cases g6 : la = 0
     case neg =>
      have ql : (la != 0) = true := by simpa using g6
      have HC := Lib.hid (show formE a = 1 by rw [HF.out, if_neg hk.out, if_pos (.inr ⟨g30.out, .inr (.inr g6)⟩)])
      clear HF
      go_wp2_with fail
      go_ret
      exact ⟨ret_int HC.out.symm, HE.out⟩
     case pos =>
      have ql : (la != 0) = false := by simpa using g6
      have hs := Lib.hid (show ¬ ((kd = 1 ∧ on ≠ 0) ∨ (kd ≠ 1 ∧ (true = false ∨ up ≠ 0 ∨ la ≠ 0))) from fun h => h.elim (fun h => g30.out h.1) (fun h => h.2.elim (fun h => by cases h) (fun h => h.elim (fun h => h g50.out) (fun h => h g6))))
      clear g6
      by_cases g8 : on < 0
      case pos =>
       go_upto_region 8 with fail
       clear v0 v1 v2 v3
       refine wp_region_held (S := In R) (by kernel_rfl) ?_
       change wpAnyH _ _ _ _ _ _ _ _ (World.drew _)
       have hC0 := hR.drew _ hR1
       generalize hx0 : wc.drew = x0 at hC0 ⊢
       clear hx0
       have HC := Lib.hid (show formE a = 3 by rw [HF.out, if_neg hk.out, if_neg hs.out, if_pos (.inl g8)])
       clear HF
       refine wpAnyH_take (i := 0) (v := .pointer (some ⟨w.heap.size, 1, none⟩)) rfl (by kernel_rfl) (by kernel_rfl) (by kernel_rfl) (fun _ _ _ h => h) (Or.inl ⟨by rfl, fun w hSw => ?_⟩) hC0 ?_
       ·go_simp
       simp only [Act.put, List.getElem_toArray, List.getElem_cons_zero, List.getElem_cons_succ, List.setIfInBounds_toArray, List.set_cons_zero, List.set_cons_succ]
       refine wpAnyH_take (i := 1) (v := .int .i64 on) rfl (by kernel_rfl) (by kernel_rfl) (by kernel_rfl) (fun _ _ _ h => h) (Or.inl ⟨by rfl, fun w hSw => ?_⟩) hC0 ?_
       ·have yy := a1 _ hSw; go_simp
       simp only [Act.put, List.getElem_toArray, List.getElem_cons_zero, List.getElem_cons_succ, List.setIfInBounds_toArray, List.set_cons_zero, List.set_cons_succ]
       refine wpAnyH_take (i := 2) (v := .bool true) rfl (by kernel_rfl) (by kernel_rfl) (by kernel_rfl) (fun _ _ _ h => h) (Or.inl ⟨by rfl, fun w hSw => ?_⟩) hC0 ?_
       ·go_simp
       simp only [Act.put, List.getElem_toArray, List.getElem_cons_zero, List.getElem_cons_succ, List.setIfInBounds_toArray, List.set_cons_zero, List.set_cons_succ]
       refine wpAnyH_take (i := 3) (v := .bool true) rfl (by kernel_rfl) (by kernel_rfl) (by kernel_rfl) (fun _ _ _ h => h) (Or.inl ⟨by rfl, fun w hSw => ?_⟩) hC0 ?_
       ·go_simp
       simp only [Act.put, List.getElem_toArray, List.getElem_cons_zero, List.getElem_cons_succ, List.setIfInBounds_toArray, List.set_cons_zero, List.set_cons_succ]
       refine wpAnyH_take (i := 4) (v := undef) rfl (by kernel_rfl) (by kernel_rfl) (by kernel_rfl) (fun _ _ _ h => h) (Or.inr ⟨by rfl, rfl⟩) hC0 ?_
       simp only [Act.put, List.getElem_toArray, List.getElem_cons_zero, List.getElem_cons_succ, List.setIfInBounds_toArray, List.set_cons_zero, List.set_cons_succ]
       refine wpAnyH_take (i := 5) (v := undef) rfl (by kernel_rfl) (by kernel_rfl) (by kernel_rfl) (fun _ _ _ h => h) (Or.inr ⟨by rfl, rfl⟩) hC0 ?_
       simp only [Act.put, List.getElem_toArray, List.getElem_cons_zero, List.getElem_cons_succ, List.setIfInBounds_toArray, List.set_cons_zero, List.set_cons_succ]
       refine wpAnyH_take (i := 6) (v := undef) rfl (by kernel_rfl) (by kernel_rfl) (by kernel_rfl) (fun _ _ _ h => h) (Or.inr ⟨by rfl, rfl⟩) hC0 ?_
       simp only [Act.put, List.getElem_toArray, List.getElem_cons_zero, List.getElem_cons_succ, List.setIfInBounds_toArray, List.set_cons_zero, List.set_cons_succ]
       refine wpAnyH_take (i := 7) (v := undef) rfl (by kernel_rfl) (by kernel_rfl) (by kernel_rfl) (fun _ _ _ h => h) (Or.inr ⟨by rfl, rfl⟩) hC0 ?_
       simp only [Act.put, List.getElem_toArray, List.getElem_cons_zero, List.getElem_cons_succ, List.setIfInBounds_toArray, List.set_cons_zero, List.set_cons_succ]
       refine wpAnyH_take (i := 8) (v := undef) rfl (by kernel_rfl) (by kernel_rfl) (by kernel_rfl) (fun _ _ _ h => h) (Or.inr ⟨by rfl, rfl⟩) hC0 ?_
       simp only [Act.put, List.getElem_toArray, List.getElem_cons_zero, List.getElem_cons_succ, List.setIfInBounds_toArray, List.set_cons_zero, List.set_cons_succ]
       refine wpAnyH_take (i := 9) (v := undef) rfl (by kernel_rfl) (by kernel_rfl) (by kernel_rfl) (fun _ _ _ h => h) (Or.inr ⟨by rfl, rfl⟩) hC0 ?_
       simp only [Act.put, List.getElem_toArray, List.getElem_cons_zero, List.getElem_cons_succ, List.setIfInBounds_toArray, List.set_cons_zero, List.set_cons_succ]
       refine wpAnyH_take (i := 10) (v := undef) rfl (by kernel_rfl) (by kernel_rfl) (by kernel_rfl) (fun _ _ _ h => h) (Or.inr ⟨by rfl, rfl⟩) hC0 ?_
       simp only [Act.put, List.getElem_toArray, List.getElem_cons_zero, List.getElem_cons_succ, List.setIfInBounds_toArray, List.set_cons_zero, List.set_cons_succ]
       refine wpAnyH_take (i := 11) (v := undef) rfl (by kernel_rfl) (by kernel_rfl) (by kernel_rfl) (fun _ _ _ h => h) (Or.inr ⟨by rfl, rfl⟩) hC0 ?_
       simp only [Act.put, List.getElem_toArray, List.getElem_cons_zero, List.getElem_cons_succ, List.setIfInBounds_toArray, List.set_cons_zero, List.set_cons_succ]
       refine wpAnyH_take (i := 12) (v := undef) rfl (by kernel_rfl) (by kernel_rfl) (by kernel_rfl) (fun _ _ _ h => h) (Or.inr ⟨by rfl, rfl⟩) hC0 ?_
       simp only [Act.put, List.getElem_toArray, List.getElem_cons_zero, List.getElem_cons_succ, List.setIfInBounds_toArray, List.set_cons_zero, List.set_cons_succ]
       refine wpAnyH_take (i := 13) (v := .bool true) rfl (by kernel_rfl) (by kernel_rfl) (by kernel_rfl) (fun _ _ _ h => h) (Or.inl ⟨by rfl, fun w hSw => ?_⟩) hC0 ?_
       ·go_simp
       simp only [Act.put, List.getElem_toArray, List.getElem_cons_zero, List.getElem_cons_succ, List.setIfInBounds_toArray, List.set_cons_zero, List.set_cons_succ]
       refine wpAnyH_take (i := 14) (v := .bool true) rfl (by kernel_rfl) (by kernel_rfl) (by kernel_rfl) (fun _ _ _ h => h) (Or.inl ⟨by rfl, fun w hSw => ?_⟩) hC0 ?_
       ·go_simp
       simp only [Act.put, List.getElem_toArray, List.getElem_cons_zero, List.getElem_cons_succ, List.setIfInBounds_toArray, List.set_cons_zero, List.set_cons_succ]
       refine wpAnyH_done (by kernel_rfl) ?_ _
       have HE2 := Lib.hid (hRb _ hC0)
       go_wp2_with fail
       go_ret
       exact ⟨ret_int HC.out.symm, HE2.out⟩
      case neg =>
       go_upto_region 8 with fail
       clear v0 v1 v2 v3
       refine wp_region_held (S := In R) (by kernel_rfl) ?_
       change wpAnyH _ _ _ _ _ _ _ _ (World.drew _)
       have hC0 := hR.drew _ hR1
       generalize hx0 : wc.drew = x0 at hC0 ⊢
       clear hx0
       by_cases g9 : 3 ≤ on
       case pos =>
        have HC := Lib.hid (show formE a = 3 by rw [HF.out, if_neg hk.out, if_neg hs.out, if_pos (.inr g9)])
        clear HF
        refine wpAnyH_take (i := 0) (v := .pointer (some ⟨w.heap.size, 1, none⟩)) rfl (by kernel_rfl) (by kernel_rfl) (by kernel_rfl) (fun _ _ _ h => h) (Or.inl ⟨by rfl, fun w hSw => ?_⟩) hC0 ?_
        ·go_simp
        simp only [Act.put, List.getElem_toArray, List.getElem_cons_zero, List.getElem_cons_succ, List.setIfInBounds_toArray, List.set_cons_zero, List.set_cons_succ]
        refine wpAnyH_take (i := 1) (v := .int .i64 on) rfl (by kernel_rfl) (by kernel_rfl) (by kernel_rfl) (fun _ _ _ h => h) (Or.inl ⟨by rfl, fun w hSw => ?_⟩) hC0 ?_
        ·have yy := a1 _ hSw; go_simp
        simp only [Act.put, List.getElem_toArray, List.getElem_cons_zero, List.getElem_cons_succ, List.setIfInBounds_toArray, List.set_cons_zero, List.set_cons_succ]
        refine wpAnyH_take (i := 2) (v := .bool false) rfl (by kernel_rfl) (by kernel_rfl) (by kernel_rfl) (fun _ _ _ h => h) (Or.inl ⟨by rfl, fun w hSw => ?_⟩) hC0 ?_
        ·go_simp
        simp only [Act.put, List.getElem_toArray, List.getElem_cons_zero, List.getElem_cons_succ, List.setIfInBounds_toArray, List.set_cons_zero, List.set_cons_succ]
        refine wpAnyH_take (i := 3) (v := .bool false) rfl (by kernel_rfl) (by kernel_rfl) (by kernel_rfl) (fun _ _ _ h => h) (Or.inl ⟨by rfl, fun w hSw => ?_⟩) hC0 ?_
        ·go_simp
        simp only [Act.put, List.getElem_toArray, List.getElem_cons_zero, List.getElem_cons_succ, List.setIfInBounds_toArray, List.set_cons_zero, List.set_cons_succ]
        refine wpAnyH_take (i := 4) (v := .pointer (some ⟨w.heap.size, 1, none⟩)) rfl (by kernel_rfl) (by kernel_rfl) (by kernel_rfl) (fun _ _ _ h => h) (Or.inl ⟨by rfl, fun w hSw => ?_⟩) hC0 ?_
        ·go_simp
        simp only [Act.put, List.getElem_toArray, List.getElem_cons_zero, List.getElem_cons_succ, List.setIfInBounds_toArray, List.set_cons_zero, List.set_cons_succ]
        refine wpAnyH_take (i := 5) (v := .int .i64 on) rfl (by kernel_rfl) (by kernel_rfl) (by kernel_rfl) (fun _ _ _ h => h) (Or.inl ⟨by rfl, fun w hSw => ?_⟩) hC0 ?_
        ·have yy := a1 _ hSw; go_simp
        simp only [Act.put, List.getElem_toArray, List.getElem_cons_zero, List.getElem_cons_succ, List.setIfInBounds_toArray, List.set_cons_zero, List.set_cons_succ]
        refine wpAnyH_take (i := 6) (v := .pointer (some ⟨K, 0, none⟩)) rfl (by kernel_rfl) (by kernel_rfl) (by kernel_rfl) (fun _ _ _ h => h) (Or.inl ⟨by rfl, fun w hSw => ?_⟩) hC0 ?_
        ·go_simp
        simp only [Act.put, List.getElem_toArray, List.getElem_cons_zero, List.getElem_cons_succ, List.setIfInBounds_toArray, List.set_cons_zero, List.set_cons_succ]
        refine wpAnyH_take (i := 7) (v := .pointer (some ⟨K, 0, none⟩)) rfl (by kernel_rfl) (by kernel_rfl) (by kernel_rfl) (fun _ _ _ h => h) (Or.inl ⟨by rfl, fun w hSw => ?_⟩) hC0 ?_
        ·go_simp
        simp only [Act.put, List.getElem_toArray, List.getElem_cons_zero, List.getElem_cons_succ, List.setIfInBounds_toArray, List.set_cons_zero, List.set_cons_succ]
        refine wpAnyH_take (i := 8) (v := .pointer (some ⟨K, 0, none⟩)) rfl (by kernel_rfl) (by kernel_rfl) (by kernel_rfl) (fun _ _ _ h => h) (Or.inl ⟨by rfl, fun w hSw => ?_⟩) hC0 ?_
        ·go_simp
        simp only [Act.put, List.getElem_toArray, List.getElem_cons_zero, List.getElem_cons_succ, List.setIfInBounds_toArray, List.set_cons_zero, List.set_cons_succ]
        refine wpAnyH_take (i := 9) (v := .pointer (some ⟨K, 0, none⟩)) rfl (by kernel_rfl) (by kernel_rfl) (by kernel_rfl) (fun _ _ _ h => h) (Or.inl ⟨by rfl, fun w hSw => ?_⟩) hC0 ?_
        ·go_simp
        simp only [Act.put, List.getElem_toArray, List.getElem_cons_zero, List.getElem_cons_succ, List.setIfInBounds_toArray, List.set_cons_zero, List.set_cons_succ]
        refine wpAnyH_take (i := 10) (v := .slice sa 3 sc) rfl (by kernel_rfl) (by kernel_rfl) (by kernel_rfl) (fun _ _ _ h => h) (Or.inl ⟨by rfl, fun w hSw => ?_⟩) hC0 ?_
        ·have yy := k0 _ hSw; go_simp
        simp only [Act.put, List.getElem_toArray, List.getElem_cons_zero, List.getElem_cons_succ, List.setIfInBounds_toArray, List.set_cons_zero, List.set_cons_succ]
        refine wpAnyH_take (i := 11) (v := .int .i64 3) rfl (by kernel_rfl) (by kernel_rfl) (by kernel_rfl) (fun _ _ _ h => h) (Or.inl ⟨by rfl, fun w hSw => ?_⟩) hC0 ?_
        ·go_simp
        simp only [Act.put, List.getElem_toArray, List.getElem_cons_zero, List.getElem_cons_succ, List.setIfInBounds_toArray, List.set_cons_zero, List.set_cons_succ]
        refine wpAnyH_take (i := 12) (v := .bool true) rfl (by kernel_rfl) (by kernel_rfl) (by kernel_rfl) (fun _ _ _ h => h) (Or.inl ⟨by rfl, fun w hSw => ?_⟩) hC0 ?_
        ·go_simp
        simp only [Act.put, List.getElem_toArray, List.getElem_cons_zero, List.getElem_cons_succ, List.setIfInBounds_toArray, List.set_cons_zero, List.set_cons_succ]
        refine wpAnyH_take (i := 13) (v := .bool true) rfl (by kernel_rfl) (by kernel_rfl) (by kernel_rfl) (fun _ _ _ h => h) (Or.inl ⟨by rfl, fun w hSw => ?_⟩) hC0 ?_
        ·go_simp
        simp only [Act.put, List.getElem_toArray, List.getElem_cons_zero, List.getElem_cons_succ, List.setIfInBounds_toArray, List.set_cons_zero, List.set_cons_succ]
        refine wpAnyH_take (i := 14) (v := .bool true) rfl (by kernel_rfl) (by kernel_rfl) (by kernel_rfl) (fun _ _ _ h => h) (Or.inl ⟨by rfl, fun w hSw => ?_⟩) hC0 ?_
        ·go_simp
        simp only [Act.put, List.getElem_toArray, List.getElem_cons_zero, List.getElem_cons_succ, List.setIfInBounds_toArray, List.set_cons_zero, List.set_cons_succ]
        refine wpAnyH_done (by kernel_rfl) ?_ _
        have HE2 := Lib.hid (hRb _ hC0)
        go_wp2_with fail
        go_ret
        exact ⟨ret_int HC.out.symm, HE2.out⟩
       case neg =>
        have HC := Lib.hid (show formE a = 0 by rw [HF.out, if_neg hk.out, if_neg hs.out, if_neg (by omega)])
        clear HF
        refine wpAnyH_take (i := 0) (v := .pointer (some ⟨w.heap.size, 1, none⟩)) rfl (by kernel_rfl) (by kernel_rfl) (by kernel_rfl) (fun _ _ _ h => h) (Or.inl ⟨by rfl, fun w hSw => ?_⟩) hC0 ?_
        ·go_simp
        simp only [Act.put, List.getElem_toArray, List.getElem_cons_zero, List.getElem_cons_succ, List.setIfInBounds_toArray, List.set_cons_zero, List.set_cons_succ]
        refine wpAnyH_take (i := 1) (v := .int .i64 on) rfl (by kernel_rfl) (by kernel_rfl) (by kernel_rfl) (fun _ _ _ h => h) (Or.inl ⟨by rfl, fun w hSw => ?_⟩) hC0 ?_
        ·have yy := a1 _ hSw; go_simp
        simp only [Act.put, List.getElem_toArray, List.getElem_cons_zero, List.getElem_cons_succ, List.setIfInBounds_toArray, List.set_cons_zero, List.set_cons_succ]
        refine wpAnyH_take (i := 2) (v := .bool false) rfl (by kernel_rfl) (by kernel_rfl) (by kernel_rfl) (fun _ _ _ h => h) (Or.inl ⟨by rfl, fun w hSw => ?_⟩) hC0 ?_
        ·go_simp
        simp only [Act.put, List.getElem_toArray, List.getElem_cons_zero, List.getElem_cons_succ, List.setIfInBounds_toArray, List.set_cons_zero, List.set_cons_succ]
        refine wpAnyH_take (i := 3) (v := .bool false) rfl (by kernel_rfl) (by kernel_rfl) (by kernel_rfl) (fun _ _ _ h => h) (Or.inl ⟨by rfl, fun w hSw => ?_⟩) hC0 ?_
        ·go_simp
        simp only [Act.put, List.getElem_toArray, List.getElem_cons_zero, List.getElem_cons_succ, List.setIfInBounds_toArray, List.set_cons_zero, List.set_cons_succ]
        refine wpAnyH_take (i := 4) (v := .pointer (some ⟨w.heap.size, 1, none⟩)) rfl (by kernel_rfl) (by kernel_rfl) (by kernel_rfl) (fun _ _ _ h => h) (Or.inl ⟨by rfl, fun w hSw => ?_⟩) hC0 ?_
        ·go_simp
        simp only [Act.put, List.getElem_toArray, List.getElem_cons_zero, List.getElem_cons_succ, List.setIfInBounds_toArray, List.set_cons_zero, List.set_cons_succ]
        refine wpAnyH_take (i := 5) (v := .int .i64 on) rfl (by kernel_rfl) (by kernel_rfl) (by kernel_rfl) (fun _ _ _ h => h) (Or.inl ⟨by rfl, fun w hSw => ?_⟩) hC0 ?_
        ·have yy := a1 _ hSw; go_simp
        simp only [Act.put, List.getElem_toArray, List.getElem_cons_zero, List.getElem_cons_succ, List.setIfInBounds_toArray, List.set_cons_zero, List.set_cons_succ]
        refine wpAnyH_take (i := 6) (v := .pointer (some ⟨K, 0, none⟩)) rfl (by kernel_rfl) (by kernel_rfl) (by kernel_rfl) (fun _ _ _ h => h) (Or.inl ⟨by rfl, fun w hSw => ?_⟩) hC0 ?_
        ·go_simp
        simp only [Act.put, List.getElem_toArray, List.getElem_cons_zero, List.getElem_cons_succ, List.setIfInBounds_toArray, List.set_cons_zero, List.set_cons_succ]
        refine wpAnyH_take (i := 7) (v := .pointer (some ⟨K, 0, none⟩)) rfl (by kernel_rfl) (by kernel_rfl) (by kernel_rfl) (fun _ _ _ h => h) (Or.inl ⟨by rfl, fun w hSw => ?_⟩) hC0 ?_
        ·go_simp
        simp only [Act.put, List.getElem_toArray, List.getElem_cons_zero, List.getElem_cons_succ, List.setIfInBounds_toArray, List.set_cons_zero, List.set_cons_succ]
        refine wpAnyH_take (i := 8) (v := .pointer (some ⟨K, 0, none⟩)) rfl (by kernel_rfl) (by kernel_rfl) (by kernel_rfl) (fun _ _ _ h => h) (Or.inl ⟨by rfl, fun w hSw => ?_⟩) hC0 ?_
        ·go_simp
        simp only [Act.put, List.getElem_toArray, List.getElem_cons_zero, List.getElem_cons_succ, List.setIfInBounds_toArray, List.set_cons_zero, List.set_cons_succ]
        refine wpAnyH_take (i := 9) (v := .pointer (some ⟨K, 0, none⟩)) rfl (by kernel_rfl) (by kernel_rfl) (by kernel_rfl) (fun _ _ _ h => h) (Or.inl ⟨by rfl, fun w hSw => ?_⟩) hC0 ?_
        ·go_simp
        simp only [Act.put, List.getElem_toArray, List.getElem_cons_zero, List.getElem_cons_succ, List.setIfInBounds_toArray, List.set_cons_zero, List.set_cons_succ]
        refine wpAnyH_take (i := 10) (v := .slice sa 3 sc) rfl (by kernel_rfl) (by kernel_rfl) (by kernel_rfl) (fun _ _ _ h => h) (Or.inl ⟨by rfl, fun w hSw => ?_⟩) hC0 ?_
        ·have yy := k0 _ hSw; go_simp
        simp only [Act.put, List.getElem_toArray, List.getElem_cons_zero, List.getElem_cons_succ, List.setIfInBounds_toArray, List.set_cons_zero, List.set_cons_succ]
        refine wpAnyH_take (i := 11) (v := .int .i64 3) rfl (by kernel_rfl) (by kernel_rfl) (by kernel_rfl) (fun _ _ _ h => h) (Or.inl ⟨by rfl, fun w hSw => ?_⟩) hC0 ?_
        ·go_simp
        simp only [Act.put, List.getElem_toArray, List.getElem_cons_zero, List.getElem_cons_succ, List.setIfInBounds_toArray, List.set_cons_zero, List.set_cons_succ]
        refine wpAnyH_take (i := 12) (v := .bool false) rfl (by kernel_rfl) (by kernel_rfl) (by kernel_rfl) (fun _ _ _ h => h) (Or.inl ⟨by rfl, fun w hSw => ?_⟩) hC0 ?_
        ·go_simp
        simp only [Act.put, List.getElem_toArray, List.getElem_cons_zero, List.getElem_cons_succ, List.setIfInBounds_toArray, List.set_cons_zero, List.set_cons_succ]
        refine wpAnyH_take (i := 13) (v := .bool false) rfl (by kernel_rfl) (by kernel_rfl) (by kernel_rfl) (fun _ _ _ h => h) (Or.inl ⟨by rfl, fun w hSw => ?_⟩) hC0 ?_
        ·go_simp
        simp only [Act.put, List.getElem_toArray, List.getElem_cons_zero, List.getElem_cons_succ, List.setIfInBounds_toArray, List.set_cons_zero, List.set_cons_succ]
        refine wpAnyH_take (i := 14) (v := .bool false) rfl (by kernel_rfl) (by kernel_rfl) (by kernel_rfl) (fun _ _ _ h => h) (Or.inl ⟨by rfl, fun w hSw => ?_⟩) hC0 ?_
        ·go_simp
        simp only [Act.put, List.getElem_toArray, List.getElem_cons_zero, List.getElem_cons_succ, List.setIfInBounds_toArray, List.set_cons_zero, List.set_cons_succ]
        refine wpAnyH_done (by kernel_rfl) ?_ _
        have HE2 := Lib.hid (hRb _ hC0)
        go_wp2_with fail
        go_ret
        exact ⟨ret_int HC.out.symm, HE2.out⟩
end Go.Proofs.YtjdgpgfiomnjkaaGreatDoor
namespace Go.Proofs.YtjdgpgfiomnjkaaGreatDoor
open Go.RowKit
set_option linter.unusedVariables false
set_option linter.unusedSimpArgs false
def eqB : ByteArray := ⟨#[61]⟩
def semB : ByteArray := ⟨#[59]⟩
def colB : ByteArray := ⟨#[58]⟩
def showOne (x : Rf) : ByteArray := x.name ++ eqB ++ decB x.id ++ semB
def showTo (l : List Rf) (s : ByteArray) : Nat → ByteArray
 | 0 => s
 | k + 1 => showTo l s k ++ showOne (rf l k)
def showR (r : Rep) : ByteArray := showTo r.refs (decB r.gen ++ colB) r.refs.length
def showC (l : List Rep) : ByteArray := if cluE l = 0 then showR (rep l (best l)) else ⟨#[]⟩
theorem ref_id {r : Rep} (h : RightR r) {k : Nat} (hk : k < r.refs.length) : (0 ≤ (rf r.refs k).id ∧ (rf r.refs k).id ≤ 999) ∧ (rf r.refs k).name.size ≤ 12 ∧ r.refs.length ≤ 8 := by
 obtain ⟨h1, h2⟩ := checkRefs_zero.1 h.refs
 have h3 := h2.commit k hk
 obtain ⟨j, hj, hid, _⟩ := kind_place (l := r.store) (id := (rf r.refs k).id) (by rw [h3]; decide)
 have h4 := checkObj_ok ((right_of h1).each j hj)
 exact ⟨by omega, name_size (h2.name k hk), h2.many⟩
theorem showTo_size {r : Rep} (h : RightR r) {s : ByteArray} (hs : s.size ≤ 100) : ∀ k, k ≤ r.refs.length → (showTo r.refs s k).size ≤ 100 + 40 * k
 | 0, _ => by show s.size ≤ _; omega
 | k + 1, hk => by
  have ih := showTo_size h hs k (by omega)
  obtain ⟨h1, h2, _⟩ := ref_id h (k := k) (by omega)
  have h3 := dec_short h1.1 h1.2
  have e1 : eqB.size = 1 := by decide +kernel
  have e2 : semB.size = 1 := by decide +kernel
  unfold showTo showOne
  rw [ByteArray.size_append, ByteArray.size_append, ByteArray.size_append, ByteArray.size_append]
  omega
set_option maxRecDepth 100000 in
set_option maxHeartbeats 16000000 in
theorem deskShow_any (l : List Rep) (cv : Value) (S : Nat → Prop) (w : World) (h : RepsV S w cv l) (ht : Tab w) :
  Calls Tryz.prog 38 #[.agg #[cv]] w fun e w' => e = .returned (.tuple #[.string (showC l), .int .i64 (cluE l)]) ∧ Below w.heap.size w w' := by
 have H := Lib.hid h
 have HTw := Lib.hid ht
 have HS := Lib.hid (show showC l = if cluE l = 0 then showR (rep l (best l)) else ⟨#[]⟩ from rfl)
 have Hnw := Lib.hid (show newN l = if cluE l = 0 then (best l : Int) else 0 from rfl)
 obtain ⟨a, n, cap, fr, HN, rfl, _, _, _, h4, h5⟩ := h.open
 obtain ⟨R, hR, hR1, HB0⟩ := cls_allocs w [.cells #[.slice a n cap] 66]
 simp only [List.foldl] at hR1
 have hRb := hR.below
 have hRn := hR.next
 have c0 := fun x (hx : In R x) => block_cell (j := 0) (HB0 x hx 0 _ rfl) rfl
 simp only [Nat.add_zero] at c0
 clear HB0
 have HNw := Lib.hid (fun x (hx : In R x) => newest_any l _ _ x (H.out.below (hRb _ hx)))
 have cc := c0 _ hR1
 have H4 := Lib.hid h4
 have H5 := Lib.hid h5
 clear h ht h4 h5
 by_cases hz : cluE l = 0
 case neg =>
  rw [if_neg hz] at HS Hnw
  rw [Hnw.out] at HNw
  have q1 : (cluE l != 0) = true := by simpa using hz
  clear hz Hnw
  generalize cluE l = ce at *
  go_enter Tryz.func38, Tryz.ntmps38
  go_wp2_with fail
  refine (HNw.out _ hR1).mono ?_
  rintro e w1 ⟨rfl, hb1⟩
  have hR2 := hRn _ _ hR1 hb1
  clear hb1 cc
  have HE := Lib.hid (hRb _ hR2)
  go_wp2_with fail
  refine bodyPost_ret (v := .tuple #[.string ⟨#[]⟩, .int .i64 ce]) (by simp [results, Tryz.results38, go_sem] <;> rfl) rfl ?_
  exact ⟨by rw [HS.out], HE.out⟩
 case pos =>
  have hc := clu_right.1 hz
  have hl3 := hc.len
  obtain rfl : n = 3 := HN.out.trans hl3
  have hbl : best l < 3 := by have := best_lt (l := l) (by omega); omega
  rw [if_pos hz] at HS Hnw
  rw [Hnw.out, hz] at HNw
  rw [hz]
  have Hr := Lib.hid (hc.each _ hbl)
  clear hz Hnw hc hl3 HN
  generalize hbe : best l = b at *
  clear hbe
  obtain ⟨b0, off0, rfl, _, k0, k1, k2, k3, k4, k5, k6⟩ := H4.out (by omega)
  have Hk := Lib.hid (And.intro k0 (And.intro k1 (And.intro k2 (And.intro k3 (And.intro k4 (And.intro k5 k6))))))
  clear k0 k1 k2 k3 k4 k5 k6 H4
  have HRf := Lib.hid (H5.out b hbl).refs
  have hi1 : (0 : Int) ≤ (b : Int) := by omega
  have hi2 : (b : Int) < 3 := by omega
  go_enter Tryz.func38, Tryz.ntmps38
  go_wp2_with fail
  refine (HNw.out _ hR1).mono ?_
  rintro e w1 ⟨rfl, hb1⟩
  have hR2 := hRn _ _ hR1 hb1
  clear hb1 cc
  have cc := c0 _ hR2
  have x0 := Hk.out.1 b w1 hbl (hRb _ hR2)
  have x1 := Hk.out.2.1 b w1 hbl (hRb _ hR2)
  have x2 := Hk.out.2.2.1 b w1 hbl (hRb _ hR2)
  have x3 := Hk.out.2.2.2.1 b w1 hbl (hRb _ hR2)
  have x4 := Hk.out.2.2.2.2.1 b w1 hbl (hRb _ hR2)
  have x5 := Hk.out.2.2.2.2.2.1 b w1 hbl (hRb _ hR2)
  have x6 := Hk.out.2.2.2.2.2.2 b w1 hbl (hRb _ hR2)
  have hR3 := hR.alloc _ (.cells #[.slice (fr b).sa (rep l b).store.length (fr b).sc, .slice (fr b).ra (rep l b).refs.length (fr b).rc, .int .i64 (rep l b).gen, .int .i64 (rep l b).phase, .slice (fr b).oa (rep l b).pend.objects.length (fr b).oc, .slice (fr b).ua (rep l b).pend.updates.length (fr b).uc, .bool (rep l b).pend.force] 28) hR2
  have HX := Lib.hid (heap_alloc_new w1 (.cells #[.slice (fr b).sa (rep l b).store.length (fr b).sc, .slice (fr b).ra (rep l b).refs.length (fr b).rc, .int .i64 (rep l b).gen, .int .i64 (rep l b).phase, .slice (fr b).oa (rep l b).pend.objects.length (fr b).oc, .slice (fr b).ua (rep l b).pend.updates.length (fr b).uc, .bool (rep l b).pend.force] 28))
  have hgen := Hr.out.gen
  have HIt := Lib.hid (fun x (hx : In R x) (n : Int) (hn : 0 ≤ n ∧ n ≤ 999) => itoa_gen n hn.1 hn.2 x (HTw.out.below (hRb _ hx)))
  have HI0 := Lib.hid (HIt.out _ hR3 _ hgen)
  have hds := dec_short hgen.1 hgen.2
  have hp0 : ¬ 9223372036854775807 < (decB (rep l b).gen).size + 1 := by omega
  have e1 : colB.size = 1 := by decide +kernel
  have Hds := Lib.hid (show (decB (rep l b).gen ++ colB).size ≤ 100 from by rw [ByteArray.size_append]; omega)
  clear e1 hgen hds
  have HsS := Lib.hid (show showR (rep l b) = showTo (rep l b).refs (decB (rep l b).gen ++ colB) (rep l b).refs.length from rfl)
  go_wp2_with fail
  refine HI0.out.mono ?_
  rintro e w4 ⟨rfl, hb4⟩
  have hR4 := hRn _ _ hR3 hb4
  replace HX := Lib.hid (blk_below HX.out hb4)
  clear hb4 cc HI0 x0 x1 x2 x3 x4 x5 x6
  generalize w1.heap.size = DX at *
  have x1 := block_cell (j := 1) HX.out rfl
  obtain ⟨s0, hs0⟩ : ∃ s0, s0 = decB (rep l b).gen ++ colB := ⟨_, rfl⟩
  rw [← hs0] at HsS Hds
  have Hs0 := Lib.hid hs0
  go_wp2_with fail
  have Hre := Lib.hid (fun k (hk : k < (rep l b).refs.length) => ref_id Hr.out hk)
  have Hsz := Lib.hid (fun k (hk : k ≤ (rep l b).refs.length) => showTo_size Hr.out Hds.out k hk)
  clear hs0 x1
  generalize hrs : (rep l b).refs = rs at *
  clear hrs
  obtain ⟨T, hT, hT1, _⟩ := cls_plain w4
  have hTb := hT.below
  have hTn := hT.next
  have HTR := Lib.hid (fun x (hx : In T x) => hRn _ _ hR4 (hTb _ hx))
  go_loopw [7, 30] (fun s i wr => ∃ k : Nat, k ≤ rs.length ∧ i = .int .i64 k ∧ s = .string (showTo rs s0 k) ∧ In T wr) (fun _ i _ => rs.length - (intOf i).toNat)
  case atStart => exact ⟨0, Nat.zero_le _, rfl, by rw [show showTo rs s0 0 = s0 from rfl, Hs0.out]; rfl, hT1⟩
  case round =>
   obtain ⟨k, hk, rfl, rfl, hTr⟩ := hrel
   obtain ⟨wo, rfl⟩ : ∃ wo : World, wo = wr := ⟨_, rfl⟩
   by_cases hlt : k < rs.length
   case neg =>
    obtain rfl : k = rs.length := by omega
    have HE := Lib.hid (hRb _ (HTR.out _ hTr))
    go_wp2_with fail
    refine bodyPost_ret (v := .tuple #[.string (showTo rs s0 rs.length), .int .i64 0]) (by simp [results, Tryz.results38, go_sem] <;> rfl) rfl ?_
    exact ⟨by rw [HS.out, HsS.out], HE.out⟩
   case pos =>
    have HnS := Lib.hid (show showTo rs s0 (k + 1) = showTo rs s0 k ++ ((rf rs k).name ++ eqB ++ decB (rf rs k).id ++ semB) from rfl)
    obtain ⟨hid, hnm, hm8⟩ := Hre.out k hlt
    have hsz := Hsz.out k hk
    have hdd := dec_short hid.1 hid.2
    have HI1 := Lib.hid (fun x (hx : In T x) => HIt.out x (HTR.out x hx) _ hid)
    obtain ⟨ar, nr, capr, HNr, er, _, _, hr3, hr4, _⟩ := HRf.out.open
    obtain rfl : nr = rs.length := HNr.out
    obtain ⟨br, ofr, har, _, hrn, hri⟩ := hr4 (by omega)
    have hra : (fr b).ra = some ⟨br, ofr, none⟩ := by cases er; exact har
    have y0 := hrn k wo hlt (hRb _ (HTR.out _ hTr))
    have y1 := hri k wo hlt (hRb _ (HTR.out _ hTr))
    have hj1 : (0 : Int) ≤ (k : Int) := by omega
    have hj2 : (k : Int) < (rs.length : Int) := by omega
    generalize showTo rs s0 k = s at *
    generalize (rf rs k).name = nm at *
    generalize (rf rs k).id = id at *
    clear er har HNr hrn hri hr3 hr4
    have Hra := Lib.hid hra
    clear hra
    have n1 : ¬ 9223372036854775807 < nm.size + 1 := by omega
    have n2 : ¬ 9223372036854775807 < nm.size + 1 + (decB id).size := by omega
    have n3 : ¬ 9223372036854775807 < nm.size + 1 + (decB id).size + 1 := by omega
    have n4 : ¬ 9223372036854775807 < s.size + (nm.size + 1 + (decB id).size + 1) := by omega
    have hTa := hT.alloc _ (.cells #[.string nm, .int .i64 id] 62) hTr
    have HU := Lib.hid (heap_alloc_new wo (.cells #[.string nm, .int .i64 id] 62))
    rw [Hra.out]
    go_upto_region 9 with fail
    generalize wo.alloc (.cells #[.string nm, .int .i64 id] 62) = wu at *
    generalize wo.heap.size = U at *
    clear y0 y1
    obtain ⟨Q, hQ, hQ1, _⟩ := cls_plain wu
    have hQb := hQ.below
    have hQn := hQ.next
    have HQT := Lib.hid (fun x (hx : In Q x) => hTn _ _ hTa (hQb _ hx))
    have e0 := fun x (hx : In Q x) => block_cell (j := 0) (blk_below HU.out (hQb _ hx)) rfl
    have e1 := fun x (hx : In Q x) => block_cell (j := 1) (blk_below HU.out (hQb _ hx)) rfl
    generalize hdi : decB id = di at *
    clear hdi
    refine wp_region_held (S := In Q) (by kernel_rfl) ?_
    change wpAnyH _ _ _ _ _ _ _ _ (World.drew _)
    have hC0 := hQ.drew _ hQ1
    generalize hx0 : wu.drew = x0 at hC0 ⊢
    clear hx0
    refine wpAnyH_take (i := 0) (v := .string s) rfl (by kernel_rfl) (by kernel_rfl) (by kernel_rfl) (fun _ _ _ h => h) (Or.inl ⟨by rfl, fun w hSw => ?_⟩) hC0 ?_
    ·go_simp
    simp only [Act.put, List.getElem_toArray, List.getElem_cons_zero, List.getElem_cons_succ, List.setIfInBounds_toArray, List.set_cons_zero, List.set_cons_succ]
    refine wpAnyH_take (i := 1) (v := .pointer (some ⟨U, 0, none⟩)) rfl (by kernel_rfl) (by kernel_rfl) (by kernel_rfl) (fun _ _ _ h => h) (Or.inl ⟨by rfl, fun w hSw => ?_⟩) hC0 ?_
    ·go_simp
    simp only [Act.put, List.getElem_toArray, List.getElem_cons_zero, List.getElem_cons_succ, List.setIfInBounds_toArray, List.set_cons_zero, List.set_cons_succ]
    refine wpAnyH_take (i := 2) (v := .string nm) rfl (by kernel_rfl) (by kernel_rfl) (by kernel_rfl) (fun _ _ _ h => h) (Or.inl ⟨by rfl, fun w hSw => ?_⟩) hC0 ?_
    ·have yy := e0 _ hSw; go_simp
    simp only [Act.put, List.getElem_toArray, List.getElem_cons_zero, List.getElem_cons_succ, List.setIfInBounds_toArray, List.set_cons_zero, List.set_cons_succ]
    refine wpAnyH_take (i := 3) (v := .string (nm ++ eqB)) rfl (by kernel_rfl) (by kernel_rfl) (by kernel_rfl) (fun _ _ _ h => h) (Or.inl ⟨by rfl, fun w hSw => ?_⟩) hC0 ?_
    ·show _ = Result.ok (Next.value (Value.string (nm ++ (⟨#[61]⟩ : ByteArray)))) w; go_simp
    simp only [Act.put, List.getElem_toArray, List.getElem_cons_zero, List.getElem_cons_succ, List.setIfInBounds_toArray, List.set_cons_zero, List.set_cons_succ]
    refine wpAnyH_take (i := 4) (v := .pointer (some ⟨U, 1, none⟩)) rfl (by kernel_rfl) (by kernel_rfl) (by kernel_rfl) (fun _ _ _ h => h) (Or.inl ⟨by rfl, fun w hSw => ?_⟩) hC0 ?_
    ·go_simp
    simp only [Act.put, List.getElem_toArray, List.getElem_cons_zero, List.getElem_cons_succ, List.setIfInBounds_toArray, List.set_cons_zero, List.set_cons_succ]
    refine wpAnyH_take (i := 5) (v := .int .i64 id) rfl (by kernel_rfl) (by kernel_rfl) (by kernel_rfl) (fun _ _ _ h => h) (Or.inl ⟨by rfl, fun w hSw => ?_⟩) hC0 ?_
    ·have yy := e1 _ hSw; go_simp
    simp only [Act.put, List.getElem_toArray, List.getElem_cons_zero, List.getElem_cons_succ, List.setIfInBounds_toArray, List.set_cons_zero, List.set_cons_succ]
    refine wpAnyH_all (rs := [6]) (by kernel_rfl) (by simp) (fun j hj => ?_)
    obtain rfl : j = 6 := by simpa using hj
    refine Or.inl ?_
    go_wp2_with fail
    refine (HI1.out _ (HQT.out _ hC0)).mono ?_
    rintro e x1 ⟨rfl, hb0⟩
    have hC1 := hQn _ _ hC0 hb0
    clear hb0
    go_simp
    refine wpAnyH_take (i := 7) (v := .string (nm ++ eqB ++ di)) rfl (by kernel_rfl) (by kernel_rfl) (by kernel_rfl) (fun _ _ _ h => h) (Or.inl ⟨by rfl, fun w hSw => ?_⟩) hC1 ?_
    ·have e9 : (nm ++ eqB).size = nm.size + 1 := (by rw [ByteArray.size_append]; rfl); go_simp
    simp only [Act.put, List.getElem_toArray, List.getElem_cons_zero, List.getElem_cons_succ, List.setIfInBounds_toArray, List.set_cons_zero, List.set_cons_succ]
    refine wpAnyH_take (i := 8) (v := .string (nm ++ eqB ++ di ++ semB)) rfl (by kernel_rfl) (by kernel_rfl) (by kernel_rfl) (fun _ _ _ h => h) (Or.inl ⟨by rfl, fun w hSw => ?_⟩) hC1 ?_
    ·have e7 : (⟨#[59]⟩ : ByteArray) = semB := rfl; have e8 : semB.size = 1 := (by decide +kernel); have e9 : (nm ++ eqB ++ di).size = nm.size + 1 + di.size := (by rw [ByteArray.size_append, ByteArray.size_append]; rfl); go_simp
    simp only [Act.put, List.getElem_toArray, List.getElem_cons_zero, List.getElem_cons_succ, List.setIfInBounds_toArray, List.set_cons_zero, List.set_cons_succ]
    refine wpAnyH_take (i := 9) (v := .string (s ++ (nm ++ eqB ++ di ++ semB))) rfl (by kernel_rfl) (by kernel_rfl) (by kernel_rfl) (fun _ _ _ h => h) (Or.inl ⟨by rfl, fun w hSw => ?_⟩) hC1 ?_
    ·have e9 : (nm ++ eqB ++ di ++ semB).size = nm.size + 1 + di.size + 1 := (by rw [ByteArray.size_append, ByteArray.size_append, ByteArray.size_append]; rfl); go_simp
    simp only [Act.put, List.getElem_toArray, List.getElem_cons_zero, List.getElem_cons_succ, List.setIfInBounds_toArray, List.set_cons_zero, List.set_cons_succ]
    refine wpAnyH_take (i := 10) (v := .string (s ++ (nm ++ eqB ++ di ++ semB))) rfl (by kernel_rfl) (by kernel_rfl) (by kernel_rfl) (fun _ _ _ h => h) (Or.inl ⟨by rfl, fun w hSw => ?_⟩) hC1 ?_
    ·go_simp
    simp only [Act.put, List.getElem_toArray, List.getElem_cons_zero, List.getElem_cons_succ, List.setIfInBounds_toArray, List.set_cons_zero, List.set_cons_succ]
    refine wpAnyH_done (by kernel_rfl) ?_ _
    have hTe := HQT.out _ hC1
    go_wp2_with fail
    go_roundw
    case rel => exact ⟨k + 1, by omega, by go_num, by rw [HnS.out], hTe⟩
    case measure => simp [intOf]; omega
end Go.Proofs.YtjdgpgfiomnjkaaGreatDoor
