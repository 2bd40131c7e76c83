/- DeskA: acts. -/
import Derived.Test.YtjdgpgfiomnjkaaGreatDoorT28
set_option linter.all false
set_option maxHeartbeats 16000000
set_option maxRecDepth 100000
namespace Go.Proofs.YtjdgpgfiomnjkaaGreatDoor
open Go.RowKit
structure Ac where
 kind : Int
 on : Int
 up : Int
 late : Int
 push : BJ
@[reducible, simp, go_sem] def a7 (a : Ac) (oa : Option Addr) (oc : Nat) (ua : Option Addr) (uc : Nat) : Array Value := #[.int .i64 a.kind, .int .i64 a.on, .int .i64 a.up, .int .i64 a.late, .slice oa a.push.objects.length oc, .slice ua a.push.updates.length uc, .bool a.push.force]
def Jh (a : Ac) (ov uv : Value) : Value := .agg #[.int .i64 a.kind, .int .i64 a.on, .int .i64 a.up, .int .i64 a.late, ov, uv, .bool a.push.force]
structure Eu (S : Nat → Prop) (w : World) (a : Ac) (ov uv : Value) : Prop where
 objs : Ah S w ov a.push.objects
 upds : AM S w uv a.push.updates
 kind : DL a.kind
 on : DL a.on
 up : DL a.up
 late : DL a.late
theorem Eu.below {S : Nat → Prop} {w w' : World} {a : Ac} {ov uv : Value} (h : Eu S w a ov uv) (hb : Below w.heap.size w w') : Eu S w' a ov uv := ⟨h.objs.below hb, h.upds.below hb, h.kind, h.on, h.up, h.late⟩
theorem Eu.weaken {S S' : Nat → Prop} {w : World} {a : Ac} {ov uv : Value} (h : Eu S w a ov uv) (hs : ∀ b, S b → S' b) : Eu S' w a ov uv := ⟨h.objs.weaken hs, h.upds.weaken hs, h.kind, h.on, h.up, h.late⟩
def Cn (a : Ac) : Int :=
 if a.kind < 1 ∨ 3 < a.kind then 7 else if (a.kind = 1 ∧ a.on ≠ 0) ∨ (a.kind ≠ 1 ∧ (BK a.push = false ∨ a.up ≠ 0 ∨ a.late ≠ 0)) then 1 else if a.on < 0 ∨ 3 ≤ a.on then 3 else 0
theorem Ut {p : BJ} (h : p.objects.length ≠ 0) : BK p = false := by unfold BK; rw [decide_eq_false h]; rfl
theorem UR {p : BJ} (h : p.updates.length ≠ 0) : BK p = false := by unfold BK; rw [decide_eq_false h]; simp
theorem Wm {p : BJ} (h0 : p.objects.length = 0) (h1 : p.updates.length = 0) : BK p = !p.force := by unfold BK; rw [decide_eq_true h0, decide_eq_true h1]; simp
theorem VJ (K : Nat) (sa : Option Addr) (sc : Nat) (told : Bool) (a : Ac) (ov uv : Value) (S : Nat → Prop) (w : World) (hK : w.heap[K]? = some (.cells #[.slice sa 3 sc, .bool told] 145 (0, 0))) (ha : Eu S w a ov uv) :
  Calls Tryz.prog 161 #[.pointer (some ⟨K, 0, none⟩), Jh a ov uv] w fun e w' => e = .returned (.int .i64 (Cn a)) ∧ Below w.heap.size w w' := by
 obtain ⟨oa, oc, rfl⟩ := ha.objs.vshape
 obtain ⟨⟨ua, uc⟩, rfl⟩ := ha.upds.shape
 have HF := zh (show Cn a = if a.kind < 1 ∨ 3 < a.kind then 7 else if (a.kind = 1 ∧ a.on ≠ 0) ∨ (a.kind ≠ 1 ∧ (BK a.push = false ∨ a.up ≠ 0 ∨ a.late ≠ 0)) then 1 else if a.on < 0 ∨ 3 ≤ a.on then 3 else 0 from rfl)
 obtain ⟨R, hR, hR1, HB0⟩ := AI w [.cells #[.int .i64 a.kind, .int .i64 a.on, .int .i64 a.up, .int .i64 a.late, .slice oa a.push.objects.length oc, .slice ua a.push.updates.length uc, .bool a.push.force] 68, .cells #[.slice oa a.push.objects.length oc, .slice ua a.push.updates.length uc, .bool a.push.force] 26]
 simp only [List.foldl] at hR1
 have hRb := hR.below
 have hRn := hR.next
 have a0 := fun x (hx : In R x) => Aa (j := 0) (HB0 x hx 0 _ rfl) rfl
 have a1 := fun x (hx : In R x) => Aa (j := 1) (HB0 x hx 0 _ rfl) rfl
 have a2 := fun x (hx : In R x) => Aa (j := 2) (HB0 x hx 0 _ rfl) rfl
 have a3 := fun x (hx : In R x) => Aa (j := 3) (HB0 x hx 0 _ rfl) rfl
 have a4 := fun x (hx : In R x) => Aa (j := 4) (HB0 x hx 0 _ rfl) rfl
 have a5 := fun x (hx : In R x) => Aa (j := 5) (HB0 x hx 0 _ rfl) rfl
 have a6 := fun x (hx : In R x) => Aa (j := 6) (HB0 x hx 0 _ rfl) rfl
 simp only [Nat.add_zero] at a0 a1 a2 a3 a4 a5 a6
 have q0 := fun x (hx : In R x) => Aa (j := 0) (HB0 x hx 1 _ rfl) rfl
 have q1 := fun x (hx : In R x) => Aa (j := 1) (HB0 x hx 1 _ rfl) rfl
 have q2 := fun x (hx : In R x) => Aa (j := 2) (HB0 x hx 1 _ rfl) rfl
 have k0 := fun x (hx : In R x) => Ai (hRb _ hx) (Aa (j := 0) hK rfl)
 clear HB0 ha hK
 simp only [Jh]
 go_enter Tryz.func161, Tryz.ntmps161
 go_upto_region 2 with fail
 generalize ((w.alloc (.cells #[.int .i64 a.kind, .int .i64 a.on, .int .i64 a.up, .int .i64 a.late, .slice oa a.push.objects.length oc, .slice ua a.push.updates.length uc, .bool a.push.force] 68)).alloc (.cells #[.slice oa a.push.objects.length oc, .slice ua a.push.updates.length uc, .bool a.push.force] 26)) = w2 at *
 have u0 := q0 _ hR1
 have u1 := q1 _ hR1
 have u2 := q2 _ hR1
 go_cut [6] (fun s6 wx => s6 = .bool (BK a.push) ∧ wx = w2)
 case first =>
  generalize hno : a.push.objects.length = no at *
  generalize hnu : a.push.updates.length = nu at *
  have Hno := zh hno
  have Hnu := zh hnu
  clear hno hnu
  by_cases h0 : no = 0
  case neg =>
   have HR := zh (show BK a.push = false from Ut (by rw [Hno.out]; exact h0))
   have qq : ((no : Int) == 0) = false := by simp; omega
   clear h0
   go_wp2_with fail
   go_meet
   exact ⟨by rw [HR.out], rfl⟩
  have H0 := zh h0
  have qq : ((no : Int) == 0) = true := by simp; omega
  clear h0
  by_cases h1 : nu = 0
  case neg =>
   have HR := zh (show BK a.push = false from UR (by rw [Hnu.out]; exact h1))
   have qq1 : ((nu : Int) == 0) = false := by simp; omega
   clear h1
   go_wp2_with fail
   go_meet
   exact ⟨by rw [HR.out], rfl⟩
  have HR := zh (show BK a.push = !a.push.force from Wm (by rw [Hno.out]; exact H0.out) (by rw [Hnu.out]; exact h1))
  have qq1 : ((nu : Int) == 0) = true := by simp; omega
  clear h1
  go_wp2_with fail
  go_meet
  exact ⟨by rw [HR.out], rfl⟩
 obtain ⟨rfl, rfl⟩ := hcut
 clear u0 u1 u2 q0 q1 q2
 have v0 := a0 _ hR1
 have v1 := a1 _ hR1
 have v2 := a2 _ hR1
 have v3 := a3 _ hR1
 generalize hnb : BK a.push = nb at *
 clear hnb
 have HE := zh (hRb _ hR1)
 generalize hkd : a.kind = kd at *
 generalize hon : a.on = on at *
 generalize hup : a.up = up at *
 generalize hla : a.late = la at *
 clear hkd hon hup hla
 by_cases g1 : kd < 1
 case pos =>
  have HC := zh (show Cn a = 7 by rw [HF.out, if_pos (.inl g1)])
  clear HF
  go_wp2_with fail
  go_ret
  exact ⟨Ae HC.out.symm, HE.out⟩
 by_cases g2 : 3 < kd
 case pos =>
  have HC := zh (show Cn a = 7 by rw [HF.out, if_pos (.inr g2)])
  clear HF
  go_wp2_with fail
  go_ret
  exact ⟨Ae HC.out.symm, HE.out⟩
 have hk := zh (show ¬ (kd < 1 ∨ 3 < kd) from by omega)
 by_cases g3 : kd = 1
 case pos =>
  have qk : (kd == 1) = true := by simpa using g3
  have qk2 : (kd != 1) = false := by simpa using g3
  by_cases g4 : on = 0
  case neg =>
   have qo : (on != 0) = true := by simpa using g4
   have HC := zh (show Cn a = 1 by rw [HF.out, if_neg hk.out, if_pos (.inl ⟨g3, g4⟩)])
   clear HF
   go_wp2_with fail
   go_ret
   exact ⟨Ae HC.out.symm, HE.out⟩
  have qo : (on != 0) = false := by simpa using g4
  have hs := zh (show ¬ ((kd = 1 ∧ on ≠ 0) ∨ (kd ≠ 1 ∧ (nb = false ∨ up ≠ 0 ∨ la ≠ 0))) from fun h => h.elim (fun h => h.2 g4) (fun h => h.1 g3))
  have g40 := zh g4
  have hon0 : ¬ on < 0 := by omega
  have hon3 : ¬ 3 ≤ on := by omega
  clear g3 g4
  by_cases g8 : on < 0
  case pos =>
   exact absurd g8 hon0
  go_upto_region 8 with fail
  clear v0 v1 v2 v3
  refine wp_region_held (S := In R) (by kernel_rfl) ?_
  change wpAnyH _ _ _ _ _ _ _ _ (World.drew _)
  have hC0 := hR.drew _ hR1
  generalize hx0 : wc.drew = x0 at hC0 ⊢
  clear hx0
  by_cases g9 : 3 ≤ on
  case pos =>
   exact absurd g9 hon3
  have HC := zh (show Cn a = 0 by rw [HF.out, if_neg hk.out, if_neg hs.out, if_neg (by omega)])
  clear HF
  refine tk 0 (.pointer (some ⟨w.heap.size, 1, none⟩)) (fun w hSw => ?_) hC0 ?_
  ·go_simp
  simp only [tkS]
  refine tk 1 (.int .i64 on) (fun w hSw => ?_) hC0 ?_
  ·have yy := a1 _ hSw; go_simp
  simp only [tkS]
  refine tk 2 (.bool false) (fun w hSw => ?_) hC0 ?_
  ·go_simp
  simp only [tkS]
  refine tk 3 (.bool false) (fun w hSw => ?_) hC0 ?_
  ·go_simp
  simp only [tkS]
  refine tk 4 (.pointer (some ⟨w.heap.size, 1, none⟩)) (fun w hSw => ?_) hC0 ?_
  ·go_simp
  simp only [tkS]
  refine tk 5 (.int .i64 on) (fun w hSw => ?_) hC0 ?_
  ·have yy := a1 _ hSw; go_simp
  simp only [tkS]
  refine tk 6 (.pointer (some ⟨K, 0, none⟩)) (fun w hSw => ?_) hC0 ?_
  ·go_simp
  simp only [tkS]
  refine tk 7 (.pointer (some ⟨K, 0, none⟩)) (fun w hSw => ?_) hC0 ?_
  ·go_simp
  simp only [tkS]
  refine tk 8 (.pointer (some ⟨K, 0, none⟩)) (fun w hSw => ?_) hC0 ?_
  ·go_simp
  simp only [tkS]
  refine tk 9 (.pointer (some ⟨K, 0, none⟩)) (fun w hSw => ?_) hC0 ?_
  ·go_simp
  simp only [tkS]
  refine tk 10 (.slice sa 3 sc) (fun w hSw => ?_) hC0 ?_
  ·have yy := k0 _ hSw; go_simp
  simp only [tkS]
  refine tk 11 (.int .i64 3) (fun w hSw => ?_) hC0 ?_
  ·go_simp
  simp only [tkS]
  refine tk 12 (.bool false) (fun w hSw => ?_) hC0 ?_
  ·go_simp
  simp only [tkS]
  refine tk 13 (.bool false) (fun w hSw => ?_) hC0 ?_
  ·go_simp
  simp only [tkS]
  refine tk 14 (.bool false) (fun w hSw => ?_) hC0 ?_
  ·go_simp
  simp only [tkS]
  refine wpAnyH_done (by kernel_rfl) ?_ _
  have HE2 := zh (hRb _ hC0)
  go_wp2_with fail
  go_ret
  exact ⟨Ae HC.out.symm, HE2.out⟩
 have qk : (kd == 1) = false := by simpa using g3
 have qk2 : (kd != 1) = true := by simpa using g3
 have g30 := zh g3
 clear g3
 cases nb
 case false =>
  have HC := zh (show Cn a = 1 by rw [HF.out, if_neg hk.out, if_pos (.inr ⟨g30.out, .inl rfl⟩)])
  clear HF
  go_wp2_with fail
  go_ret
  exact ⟨Ae HC.out.symm, HE.out⟩
 by_cases g5 : up = 0
 case neg =>
  have qu : (up != 0) = true := by simpa using g5
  have HC := zh (show Cn a = 1 by rw [HF.out, if_neg hk.out, if_pos (.inr ⟨g30.out, .inr (.inl g5)⟩)])
  clear HF
  go_wp2_with fail
  go_ret
  exact ⟨Ae HC.out.symm, HE.out⟩
 have qu : (up != 0) = false := by simpa using g5
 have g50 := zh g5
 clear g5
 by_cases g6 : la = 0
 case neg =>
  have ql : (la != 0) = true := by simpa using g6
  have HC := zh (show Cn a = 1 by rw [HF.out, if_neg hk.out, if_pos (.inr ⟨g30.out, .inr (.inr g6)⟩)])
  clear HF
  go_wp2_with fail
  go_ret
  exact ⟨Ae HC.out.symm, HE.out⟩
 have ql : (la != 0) = false := by simpa using g6
 have hs := zh (show ¬ ((kd = 1 ∧ on ≠ 0) ∨ (kd ≠ 1 ∧ (true = false ∨ up ≠ 0 ∨ la ≠ 0))) from fun h => h.elim (fun h => g30.out h.1) (fun h => h.2.elim (fun h => by cases h) (fun h => h.elim (fun h => h g50.out) (fun h => h g6))))
 clear g6
 by_cases g8 : on < 0
 case pos =>
  go_upto_region 8 with fail
  clear v0 v1 v2 v3
  refine wp_region_held (S := In R) (by kernel_rfl) ?_
  change wpAnyH _ _ _ _ _ _ _ _ (World.drew _)
  have hC0 := hR.drew _ hR1
  generalize hx0 : wc.drew = x0 at hC0 ⊢
  clear hx0
  have HC := zh (show Cn a = 3 by rw [HF.out, if_neg hk.out, if_neg hs.out, if_pos (.inl g8)])
  clear HF
  refine tk 0 (.pointer (some ⟨w.heap.size, 1, none⟩)) (fun w hSw => ?_) hC0 ?_
  ·go_simp
  simp only [tkS]
  refine tk 1 (.int .i64 on) (fun w hSw => ?_) hC0 ?_
  ·have yy := a1 _ hSw; go_simp
  simp only [tkS]
  refine tk 2 (.bool true) (fun w hSw => ?_) hC0 ?_
  ·go_simp
  simp only [tkS]
  refine tk 3 (.bool true) (fun w hSw => ?_) hC0 ?_
  ·go_simp
  simp only [tkS]
  refine wpAnyH_take (i := 4) (v := undef) rfl (by kernel_rfl) (by kernel_rfl) (by kernel_rfl) (fun _ _ _ h => h) (Or.inr ⟨by rfl, rfl⟩) hC0 ?_
  simp only [tkS]
  refine wpAnyH_take (i := 5) (v := undef) rfl (by kernel_rfl) (by kernel_rfl) (by kernel_rfl) (fun _ _ _ h => h) (Or.inr ⟨by rfl, rfl⟩) hC0 ?_
  simp only [tkS]
  refine wpAnyH_take (i := 6) (v := undef) rfl (by kernel_rfl) (by kernel_rfl) (by kernel_rfl) (fun _ _ _ h => h) (Or.inr ⟨by rfl, rfl⟩) hC0 ?_
  simp only [tkS]
  refine wpAnyH_take (i := 7) (v := undef) rfl (by kernel_rfl) (by kernel_rfl) (by kernel_rfl) (fun _ _ _ h => h) (Or.inr ⟨by rfl, rfl⟩) hC0 ?_
  simp only [tkS]
  refine wpAnyH_take (i := 8) (v := undef) rfl (by kernel_rfl) (by kernel_rfl) (by kernel_rfl) (fun _ _ _ h => h) (Or.inr ⟨by rfl, rfl⟩) hC0 ?_
  simp only [tkS]
  refine wpAnyH_take (i := 9) (v := undef) rfl (by kernel_rfl) (by kernel_rfl) (by kernel_rfl) (fun _ _ _ h => h) (Or.inr ⟨by rfl, rfl⟩) hC0 ?_
  simp only [tkS]
  refine wpAnyH_take (i := 10) (v := undef) rfl (by kernel_rfl) (by kernel_rfl) (by kernel_rfl) (fun _ _ _ h => h) (Or.inr ⟨by rfl, rfl⟩) hC0 ?_
  simp only [tkS]
  refine wpAnyH_take (i := 11) (v := undef) rfl (by kernel_rfl) (by kernel_rfl) (by kernel_rfl) (fun _ _ _ h => h) (Or.inr ⟨by rfl, rfl⟩) hC0 ?_
  simp only [tkS]
  refine wpAnyH_take (i := 12) (v := undef) rfl (by kernel_rfl) (by kernel_rfl) (by kernel_rfl) (fun _ _ _ h => h) (Or.inr ⟨by rfl, rfl⟩) hC0 ?_
  simp only [tkS]
  refine tk 13 (.bool true) (fun w hSw => ?_) hC0 ?_
  ·go_simp
  simp only [tkS]
  refine tk 14 (.bool true) (fun w hSw => ?_) hC0 ?_
  ·go_simp
  simp only [tkS]
  refine wpAnyH_done (by kernel_rfl) ?_ _
  have HE2 := zh (hRb _ hC0)
  go_wp2_with fail
  go_ret
  exact ⟨Ae HC.out.symm, HE2.out⟩
 go_upto_region 8 with fail
 clear v0 v1 v2 v3
 refine wp_region_held (S := In R) (by kernel_rfl) ?_
 change wpAnyH _ _ _ _ _ _ _ _ (World.drew _)
 have hC0 := hR.drew _ hR1
 generalize hx0 : wc.drew = x0 at hC0 ⊢
 clear hx0
 by_cases g9 : 3 ≤ on
 case pos =>
  have HC := zh (show Cn a = 3 by rw [HF.out, if_neg hk.out, if_neg hs.out, if_pos (.inr g9)])
  clear HF
  refine tk 0 (.pointer (some ⟨w.heap.size, 1, none⟩)) (fun w hSw => ?_) hC0 ?_
  ·go_simp
  simp only [tkS]
  refine tk 1 (.int .i64 on) (fun w hSw => ?_) hC0 ?_
  ·have yy := a1 _ hSw; go_simp
  simp only [tkS]
  refine tk 2 (.bool false) (fun w hSw => ?_) hC0 ?_
  ·go_simp
  simp only [tkS]
  refine tk 3 (.bool false) (fun w hSw => ?_) hC0 ?_
  ·go_simp
  simp only [tkS]
  refine tk 4 (.pointer (some ⟨w.heap.size, 1, none⟩)) (fun w hSw => ?_) hC0 ?_
  ·go_simp
  simp only [tkS]
  refine tk 5 (.int .i64 on) (fun w hSw => ?_) hC0 ?_
  ·have yy := a1 _ hSw; go_simp
  simp only [tkS]
  refine tk 6 (.pointer (some ⟨K, 0, none⟩)) (fun w hSw => ?_) hC0 ?_
  ·go_simp
  simp only [tkS]
  refine tk 7 (.pointer (some ⟨K, 0, none⟩)) (fun w hSw => ?_) hC0 ?_
  ·go_simp
  simp only [tkS]
  refine tk 8 (.pointer (some ⟨K, 0, none⟩)) (fun w hSw => ?_) hC0 ?_
  ·go_simp
  simp only [tkS]
  refine tk 9 (.pointer (some ⟨K, 0, none⟩)) (fun w hSw => ?_) hC0 ?_
  ·go_simp
  simp only [tkS]
  refine tk 10 (.slice sa 3 sc) (fun w hSw => ?_) hC0 ?_
  ·have yy := k0 _ hSw; go_simp
  simp only [tkS]
  refine tk 11 (.int .i64 3) (fun w hSw => ?_) hC0 ?_
  ·go_simp
  simp only [tkS]
  refine tk 12 (.bool true) (fun w hSw => ?_) hC0 ?_
  ·go_simp
  simp only [tkS]
  refine tk 13 (.bool true) (fun w hSw => ?_) hC0 ?_
  ·go_simp
  simp only [tkS]
  refine tk 14 (.bool true) (fun w hSw => ?_) hC0 ?_
  ·go_simp
  simp only [tkS]
  refine wpAnyH_done (by kernel_rfl) ?_ _
  have HE2 := zh (hRb _ hC0)
  go_wp2_with fail
  go_ret
  exact ⟨Ae HC.out.symm, HE2.out⟩
 have HC := zh (show Cn a = 0 by rw [HF.out, if_neg hk.out, if_neg hs.out, if_neg (by omega)])
 clear HF
 refine tk 0 (.pointer (some ⟨w.heap.size, 1, none⟩)) (fun w hSw => ?_) hC0 ?_
 ·go_simp
 simp only [tkS]
 refine tk 1 (.int .i64 on) (fun w hSw => ?_) hC0 ?_
 ·have yy := a1 _ hSw; go_simp
 simp only [tkS]
 refine tk 2 (.bool false) (fun w hSw => ?_) hC0 ?_
 ·go_simp
 simp only [tkS]
 refine tk 3 (.bool false) (fun w hSw => ?_) hC0 ?_
 ·go_simp
 simp only [tkS]
 refine tk 4 (.pointer (some ⟨w.heap.size, 1, none⟩)) (fun w hSw => ?_) hC0 ?_
 ·go_simp
 simp only [tkS]
 refine tk 5 (.int .i64 on) (fun w hSw => ?_) hC0 ?_
 ·have yy := a1 _ hSw; go_simp
 simp only [tkS]
 refine tk 6 (.pointer (some ⟨K, 0, none⟩)) (fun w hSw => ?_) hC0 ?_
 ·go_simp
 simp only [tkS]
 refine tk 7 (.pointer (some ⟨K, 0, none⟩)) (fun w hSw => ?_) hC0 ?_
 ·go_simp
 simp only [tkS]
 refine tk 8 (.pointer (some ⟨K, 0, none⟩)) (fun w hSw => ?_) hC0 ?_
 ·go_simp
 simp only [tkS]
 refine tk 9 (.pointer (some ⟨K, 0, none⟩)) (fun w hSw => ?_) hC0 ?_
 ·go_simp
 simp only [tkS]
 refine tk 10 (.slice sa 3 sc) (fun w hSw => ?_) hC0 ?_
 ·have yy := k0 _ hSw; go_simp
 simp only [tkS]
 refine tk 11 (.int .i64 3) (fun w hSw => ?_) hC0 ?_
 ·go_simp
 simp only [tkS]
 refine tk 12 (.bool false) (fun w hSw => ?_) hC0 ?_
 ·go_simp
 simp only [tkS]
 refine tk 13 (.bool false) (fun w hSw => ?_) hC0 ?_
 ·go_simp
 simp only [tkS]
 refine tk 14 (.bool false) (fun w hSw => ?_) hC0 ?_
 ·go_simp
 simp only [tkS]
 refine wpAnyH_done (by kernel_rfl) ?_ _
 have HE2 := zh (hRb _ hC0)
 go_wp2_with fail
 go_ret
 exact ⟨Ae HC.out.symm, HE2.out⟩
def OV : ByteArray := ⟨#[61]⟩
def Jg : ByteArray := ⟨#[59]⟩
def Ph : ByteArray := ⟨#[58]⟩
def Tc (x : Rf) : ByteArray := x.name ++ OV ++ AS x.id ++ Jg
def Dw (l : List Rf) (s : ByteArray) : Nat → ByteArray
 | 0 => s
 | k + 1 => Dw l s k ++ Tc (rf l k)
def Mn (r : An) : ByteArray := Dw r.refs (AS r.gen ++ Ph) r.refs.length
def Nj (l : List An) : ByteArray := if CJ l = 0 then Mn (Af l (Co l)) else ⟨#[]⟩
theorem Sk {r : An} (h : Ct r) {k : Nat} (hk : k < r.refs.length) : (0 ≤ (rf r.refs k).id ∧ (rf r.refs k).id ≤ 999) ∧ (rf r.refs k).name.size ≤ 12 ∧ r.refs.length ≤ 8 := by
 obtain ⟨h1, h2⟩ := Bq.1 h.refs
 have h3 := h2.commit k hk
 obtain ⟨j, hj, hid, _⟩ := Fw (l := r.store) (id := (rf r.refs k).id) (by rw [h3]; decide)
 have h4 := EX ((Gx h1).each j hj)
 exact ⟨by omega, Gm (h2.name k hk), h2.many⟩
theorem IG {r : An} (h : Ct r) {s : ByteArray} (hs : s.size ≤ 100) : ∀ k, k ≤ r.refs.length → (Dw r.refs s k).size ≤ 100 + 40 * k
 | 0, _ => by show s.size ≤ _; omega
 | k + 1, hk => by
  have ih := IG h hs k (by omega)
  obtain ⟨h1, h2, _⟩ := Sk h (k := k) (by omega)
  have h3 := Dp h1.1 h1.2
  have e1 : OV.size = 1 := by decide +kernel
  have e2 : Jg.size = 1 := by decide +kernel
  unfold Dw Tc
  rw [ByteArray.size_append, ByteArray.size_append, ByteArray.size_append, ByteArray.size_append]
  omega
theorem Ks (l : List An) (cv : Value) (S : Nat → Prop) (w : World) (h : AJ S w cv l) (ht : QG w) :
  Calls Tryz.prog 38 #[.agg #[cv]] w fun e w' => e = .returned (.tuple #[.string (Nj l), .int .i64 (CJ l)]) ∧ Below w.heap.size w w' := by
 have H := zh h
 have HTw := zh ht
 have HS := zh (show Nj l = if CJ l = 0 then Mn (Af l (Co l)) else ⟨#[]⟩ from rfl)
 have Hnw := zh (show Yr l = if CJ l = 0 then (Co l : Int) else 0 from rfl)
 obtain ⟨a, n, cap, fr, HN, rfl, _, _, _, h4, h5⟩ := h.open
 obtain ⟨R, hR, hR1, HB0⟩ := AI w [.cells #[.slice a n cap] 66]
 simp only [List.foldl] at hR1
 have hRb := hR.below
 have hRn := hR.next
 have c0 := fun x (hx : In R x) => Aa (j := 0) (HB0 x hx 0 _ rfl) rfl
 simp only [Nat.add_zero] at c0
 clear HB0
 have HNw := zh (fun x (hx : In R x) => Sp l _ _ x (H.out.below (hRb _ hx)))
 have cc := c0 _ hR1
 have H4 := zh h4
 have H5 := zh h5
 clear h ht h4 h5
 by_cases hz : CJ l = 0
 case neg =>
  rw [if_neg hz] at HS Hnw
  rw [Hnw.out] at HNw
  have q1 : (CJ l != 0) = true := by simpa using hz
  clear hz Hnw
  generalize CJ l = ce at *
  go_enter Tryz.func38, Tryz.ntmps38
  go_wp2_with fail
  refine (HNw.out _ hR1).mono ?_
  rintro e w1 ⟨rfl, hb1⟩
  have hR2 := hRn _ _ hR1 hb1
  clear hb1 cc
  have HE := zh (hRb _ hR2)
  go_wp2_with fail
  refine bodyPost_ret (v := .tuple #[.string ⟨#[]⟩, .int .i64 ce]) (by simp [results, Tryz.results38, go_sem] <;> rfl) rfl ?_
  exact ⟨by rw [HS.out], HE.out⟩
 have hc := Eg.1 hz
 have hl3 := hc.len
 obtain rfl : n = 3 := HN.out.trans hl3
 have hbl : Co l < 3 := by have := GL (l := l) (by omega); omega
 rw [if_pos hz] at HS Hnw
 rw [Hnw.out, hz] at HNw
 rw [hz]
 have Hr := zh (hc.each _ hbl)
 clear hz Hnw hc hl3 HN
 generalize hbe : Co l = b at *
 clear hbe
 obtain ⟨b0, off0, rfl, _, k0, k1, k2, k3, k4, k5, k6⟩ := H4.out (by omega)
 have Hk := zh (And.intro k0 (And.intro k1 (And.intro k2 (And.intro k3 (And.intro k4 (And.intro k5 k6))))))
 clear k0 k1 k2 k3 k4 k5 k6 H4
 have HRf := zh (H5.out b hbl).refs
 have hi1 : (0 : Int) ≤ (b : Int) := by omega
 have hi2 : (b : Int) < 3 := by omega
 go_enter Tryz.func38, Tryz.ntmps38
 go_wp2_with fail
 refine (HNw.out _ hR1).mono ?_
 rintro e w1 ⟨rfl, hb1⟩
 have hR2 := hRn _ _ hR1 hb1
 clear hb1 cc
 have cc := c0 _ hR2
 have x0 := Hk.out.1 b w1 hbl (hRb _ hR2)
 have x1 := Hk.out.2.1 b w1 hbl (hRb _ hR2)
 have x2 := Hk.out.2.2.1 b w1 hbl (hRb _ hR2)
 have x3 := Hk.out.2.2.2.1 b w1 hbl (hRb _ hR2)
 have x4 := Hk.out.2.2.2.2.1 b w1 hbl (hRb _ hR2)
 have x5 := Hk.out.2.2.2.2.2.1 b w1 hbl (hRb _ hR2)
 have x6 := Hk.out.2.2.2.2.2.2 b w1 hbl (hRb _ hR2)
 have hR3 := hR.alloc _ (.cells (c7 (Af l b) (fr b).sa (fr b).sc (fr b).ra (fr b).rc (fr b).oa (fr b).oc (fr b).ua (fr b).uc) 28) hR2
 have HX := zh (heap_alloc_new w1 (.cells (c7 (Af l b) (fr b).sa (fr b).sc (fr b).ra (fr b).rc (fr b).oa (fr b).oc (fr b).ua (fr b).uc) 28))
 have hgen := Hr.out.gen
 have HIt := zh (fun x (hx : In R x) (n : Int) (hn : 0 ≤ n ∧ n ≤ 999) => Ri n hn.1 hn.2 x (HTw.out.below (hRb _ hx)))
 have HI0 := zh (HIt.out _ hR3 _ hgen)
 have hds := Dp hgen.1 hgen.2
 have hp0 : ¬ 9223372036854775807 < (AS (Af l b).gen).size + 1 := by omega
 have e1 : Ph.size = 1 := by decide +kernel
 have Hds := zh (show (AS (Af l b).gen ++ Ph).size ≤ 100 from by rw [ByteArray.size_append]; omega)
 clear e1 hgen hds
 have HsS := zh (show Mn (Af l b) = Dw (Af l b).refs (AS (Af l b).gen ++ Ph) (Af l b).refs.length from rfl)
 go_wp2_with fail
 refine HI0.out.mono ?_
 rintro e w4 ⟨rfl, hb4⟩
 have hR4 := hRn _ _ hR3 hb4
 replace HX := zh (Ak HX.out hb4)
 clear hb4 cc HI0 x0 x1 x2 x3 x4 x5 x6
 generalize w1.heap.size = DX at *
 have x1 := Aa (j := 1) HX.out rfl
 obtain ⟨s0, hs0⟩ : ∃ s0, s0 = AS (Af l b).gen ++ Ph := ⟨_, rfl⟩
 rw [← hs0] at HsS Hds
 have Hs0 := zh hs0
 go_wp2_with fail
 have Hre := zh (fun k (hk : k < (Af l b).refs.length) => Sk Hr.out hk)
 have Hsz := zh (fun k (hk : k ≤ (Af l b).refs.length) => IG Hr.out Hds.out k hk)
 clear hs0 x1
 generalize hrs : (Af l b).refs = rs at *
 clear hrs
 obtain ⟨T, hT, hT1, _⟩ := Ay w4
 have hTb := hT.below
 have hTn := hT.next
 have HTR := zh (fun x (hx : In T x) => hRn _ _ hR4 (hTb _ hx))
 go_loopw [7, 30] (fun s i wr => ∃ k : Nat, k ≤ rs.length ∧ i = .int .i64 k ∧ s = .string (Dw rs s0 k) ∧ In T wr) (fun _ i _ => rs.length - (intOf i).toNat)
 case atStart => exact ⟨0, Nat.zero_le _, rfl, by rw [show Dw rs s0 0 = s0 from rfl, Hs0.out]; rfl, hT1⟩
 obtain ⟨k, hk, rfl, rfl, hTr⟩ := hrel
 obtain ⟨wo, rfl⟩ : ∃ wo : World, wo = wr := ⟨_, rfl⟩
 by_cases hlt : k < rs.length
 case neg =>
  obtain rfl : k = rs.length := by omega
  have HE := zh (hRb _ (HTR.out _ hTr))
  go_wp2_with fail
  refine bodyPost_ret (v := .tuple #[.string (Dw rs s0 rs.length), .int .i64 0]) (by simp [results, Tryz.results38, go_sem] <;> rfl) rfl ?_
  exact ⟨by rw [HS.out, HsS.out], HE.out⟩
 have HnS := zh (show Dw rs s0 (k + 1) = Dw rs s0 k ++ ((rf rs k).name ++ OV ++ AS (rf rs k).id ++ Jg) from rfl)
 obtain ⟨hid, hnm, hm8⟩ := Hre.out k hlt
 have hsz := Hsz.out k hk
 have hdd := Dp hid.1 hid.2
 have HI1 := zh (fun x (hx : In T x) => HIt.out x (HTR.out x hx) _ hid)
 obtain ⟨ar, nr, capr, HNr, er, _, _, hr3, hr4, _⟩ := HRf.out.open
 obtain rfl : nr = rs.length := HNr.out
 obtain ⟨br, ofr, har, _, hrn, hri⟩ := hr4 (by omega)
 have hra : (fr b).ra = some ⟨br, ofr, none⟩ := by cases er; exact har
 have y0 := hrn k wo hlt (hRb _ (HTR.out _ hTr))
 have y1 := hri k wo hlt (hRb _ (HTR.out _ hTr))
 have hj1 : (0 : Int) ≤ (k : Int) := by omega
 have hj2 : (k : Int) < (rs.length : Int) := by omega
 generalize Dw rs s0 k = s at *
 generalize (rf rs k).name = nm at *
 generalize (rf rs k).id = id at *
 clear er har HNr hrn hri hr3 hr4
 have Hra := zh hra
 clear hra
 have n1 : ¬ 9223372036854775807 < nm.size + 1 := by omega
 have n2 : ¬ 9223372036854775807 < nm.size + 1 + (AS id).size := by omega
 have n3 : ¬ 9223372036854775807 < nm.size + 1 + (AS id).size + 1 := by omega
 have n4 : ¬ 9223372036854775807 < s.size + (nm.size + 1 + (AS id).size + 1) := by omega
 have hTa := hT.alloc _ (.cells #[.string nm, .int .i64 id] 62) hTr
 have HU := zh (heap_alloc_new wo (.cells #[.string nm, .int .i64 id] 62))
 rw [Hra.out]
 go_upto_region 9 with fail
 generalize wo.alloc (.cells #[.string nm, .int .i64 id] 62) = wu at *
 generalize wo.heap.size = U at *
 clear y0 y1
 obtain ⟨Q, hQ, hQ1, _⟩ := Ay wu
 have hQb := hQ.below
 have hQn := hQ.next
 have HQT := zh (fun x (hx : In Q x) => hTn _ _ hTa (hQb _ hx))
 have e0 := fun x (hx : In Q x) => Aa (j := 0) (Ak HU.out (hQb _ hx)) rfl
 have e1 := fun x (hx : In Q x) => Aa (j := 1) (Ak HU.out (hQb _ hx)) rfl
 generalize hdi : AS id = di at *
 clear hdi
 refine wp_region_held (S := In Q) (by kernel_rfl) ?_
 change wpAnyH _ _ _ _ _ _ _ _ (World.drew _)
 have hC0 := hQ.drew _ hQ1
 generalize hx0 : wu.drew = x0 at hC0 ⊢
 clear hx0
 refine tk 0 (.string s) (fun w hSw => ?_) hC0 ?_
 ·go_simp
 simp only [tkS]
 refine tk 1 (.pointer (some ⟨U, 0, none⟩)) (fun w hSw => ?_) hC0 ?_
 ·go_simp
 simp only [tkS]
 refine tk 2 (.string nm) (fun w hSw => ?_) hC0 ?_
 ·have yy := e0 _ hSw; go_simp
 simp only [tkS]
 refine tk 3 (.string (nm ++ OV)) (fun w hSw => ?_) hC0 ?_
 ·show _ = Result.ok (Next.value (Value.string (nm ++ (⟨#[61]⟩ : ByteArray)))) w; go_simp
 simp only [tkS]
 refine tk 4 (.pointer (some ⟨U, 1, none⟩)) (fun w hSw => ?_) hC0 ?_
 ·go_simp
 simp only [tkS]
 refine tk 5 (.int .i64 id) (fun w hSw => ?_) hC0 ?_
 ·have yy := e1 _ hSw; go_simp
 simp only [tkS]
 refine al1 6 ?_
 refine Or.inl ?_
 go_wp2_with fail
 refine (HI1.out _ (HQT.out _ hC0)).mono ?_
 rintro e x1 ⟨rfl, hb0⟩
 have hC1 := hQn _ _ hC0 hb0
 clear hb0
 go_simp
 refine tk 7 (.string (nm ++ OV ++ di)) (fun w hSw => ?_) hC1 ?_
 ·have e9 : (nm ++ OV).size = nm.size + 1 := (by rw [ByteArray.size_append]; rfl); go_simp
 simp only [tkS]
 refine tk 8 (.string (nm ++ OV ++ di ++ Jg)) (fun w hSw => ?_) hC1 ?_
 ·have e7 : (⟨#[59]⟩ : ByteArray) = Jg := rfl; have e8 : Jg.size = 1 := (by decide +kernel); have e9 : (nm ++ OV ++ di).size = nm.size + 1 + di.size := (by rw [ByteArray.size_append, ByteArray.size_append]; rfl); go_simp
 simp only [tkS]
 refine tk 9 (.string (s ++ (nm ++ OV ++ di ++ Jg))) (fun w hSw => ?_) hC1 ?_
 ·have e9 : (nm ++ OV ++ di ++ Jg).size = nm.size + 1 + di.size + 1 := (by rw [ByteArray.size_append, ByteArray.size_append, ByteArray.size_append]; rfl); go_simp
 simp only [tkS]
 refine tk 10 (.string (s ++ (nm ++ OV ++ di ++ Jg))) (fun w hSw => ?_) hC1 ?_
 ·go_simp
 simp only [tkS]
 refine wpAnyH_done (by kernel_rfl) ?_ _
 have hTe := HQT.out _ hC1
 go_wp2_with fail
 go_roundw
 case rel => exact ⟨k + 1, by omega, by go_num, by rw [HnS.out], hTe⟩
 case measure => simp [intOf]; omega
end Go.Proofs.YtjdgpgfiomnjkaaGreatDoor
