/- DeskC: walks of desk. -/
import Derived.Test.YtjdgpgfiomnjkaaGreatDoorT31
set_option linter.all false
set_option maxHeartbeats 16000000
set_option maxRecDepth 100000
namespace Go.Proofs.YtjdgpgfiomnjkaaGreatDoor
open Go.RowKit
def Di (l : List An) (a : Ac) : Int := if Cn a ≠ 0 then Cn a else if a.kind = 1 then BT l a.push a.up a.late else if a.kind = 2 then BV (Af l (Co l)) (Af l a.on.toNat) else 0
def Ej (l : List An) (a : Ac) : List An := if a.kind = 1 then Bj l a.push a.up a.late else if a.kind = 2 then l.set a.on.toNat (BI (Af l (Co l)) (Af l a.on.toNat)) else l.set a.on.toNat (DD (Af l a.on.toNat))
def LU (l : List An) (a : Ac) : Bool := if a.kind = 1 then CD l a.push a.up a.late else true
theorem OT {a : Ac} (h : Cn a = 0) : 1 ≤ a.kind ∧ a.kind ≤ 3 ∧ 0 ≤ a.on ∧ a.on < 3 := by
 unfold Cn at h
 split at h
 ·cases h
 ·split at h
  ·cases h
  ·split at h
   ·cases h
   ·omega
theorem Ec.mono {B B' : Nat} {w : World} {v : Value} {l : List An} (h : Ec B w v l) (hB : B' ≤ B) : Ec B' w v l := by
 obtain ⟨F, hO, hF⟩ := h
 exact ⟨F, hO.weaken (fun _ h => h) (fun b hb => ⟨hO.lt hb, hO.own hb⟩) hB, fun b hb => by have := hF b hb; omega⟩
theorem Ec.upd {B : Nat} {T : Nat → Prop} {w w' : World} {v : Value} {l : List An} (h : Ec B w v l) (hu : Av T w w') (hT : ∀ b, B ≤ b → b < w.heap.size → ¬ T b) : Ec B w' v l := by
 obtain ⟨F, hO, hF⟩ := h
 exact ⟨F, hO.upd hu (fun b hb => hT b (hF b hb) (hO.lt hb)) (fun g hg => hT g (hO.block hg).1 (hO.block hg).2), hF⟩
theorem Ec.shape {B : Nat} {w : World} {v : Value} {l : List An} (h : Ec B w v l) : ∃ a c, v = .slice a l.length c := let ⟨_, hO, _⟩ := h; hO.shape
theorem Ec.below {B : Nat} {w w' : World} {v : Value} {l : List An} (h : Ec B w v l) (hb : Below w.heap.size w w') : Ec B w' v l := by
 obtain ⟨F, hO, hF⟩ := h
 exact ⟨F, hO.below hb, hF⟩
def Vy (K : Nat) (w w' : World) (E : Int) (l : List An) (d : Bool) : Prop := (E ≠ 0 → Below w.heap.size w w') ∧ (E = 0 → Av (fun b => b = K) w w' ∧ ∃ v', w'.heap[K]? = some (.cells #[v', .bool d] 145 (0, 0)) ∧ Ec w.heap.size w' v' l)
theorem Lw (K : Nat) (sa : Option Addr) (sc : Nat) (l : List An) (a : Ac) (ov uv : Value) (S S1 : Nat → Prop) (w : World) (hK : w.heap[K]? = some (.cells #[.slice sa 3 sc, .bool false] 145 (0, 0))) (h : AJ S w (.slice sa 3 sc) l) (hc : Be l) (ha : Eu S1 w a ov uv) (ht : QG w) :
  Calls Tryz.prog 100 #[.pointer (some ⟨K, 0, none⟩), Jh a ov uv] w fun e w' => e = .returned (.int .i64 (Di l a)) ∧ Vy K w w' (Di l a) (Ej l a) (LU l a) := by
 obtain ⟨oa, oc, rfl⟩ := ha.objs.vshape
 obtain ⟨⟨ua, uc⟩, rfl⟩ := ha.upds.shape
 have HA := zh ha
 have H := zh h
 have HC := zh hc
 have HK := zh hK
 have HTw := zh ht
 have hKs : K < w.heap.size := lt_of_block hK
 have HE := zh (show Di l a = if Cn a ≠ 0 then Cn a else if a.kind = 1 then BT l a.push a.up a.late else if a.kind = 2 then BV (Af l (Co l)) (Af l a.on.toNat) else 0 from rfl)
 have HL := zh (show Ej l a = if a.kind = 1 then Bj l a.push a.up a.late else if a.kind = 2 then l.set a.on.toNat (BI (Af l (Co l)) (Af l a.on.toNat)) else l.set a.on.toNat (DD (Af l a.on.toNat)) from rfl)
 have HD := zh (show LU l a = if a.kind = 1 then CD l a.push a.up a.late else true from rfl)
 obtain ⟨R, hR, hR1, HB0⟩ := AI w [.cells #[.pointer (some ⟨K, 0, none⟩)] 143, .cells #[.int .i64 a.kind, .int .i64 a.on, .int .i64 a.up, .int .i64 a.late, .slice oa a.push.objects.length oc, .slice ua a.push.updates.length uc, .bool a.push.force] 68]
 simp only [List.foldl] at hR1
 have hRb := hR.below
 have hRn := hR.next
 have HJ := zh (fun x (hx : In R x) => show x.heap[w.heap.size]? = some (.cells #[.pointer (some ⟨K, 0, none⟩)] 143 (0, 0)) from HB0 x hx 0 _ rfl)
 have HAb := zh (fun x (hx : In R x) => HB0 x hx 1 _ rfl)
 clear HB0
 have j0 := fun x (hx : In R x) => Aa (j := 0) (HJ.out x hx) rfl
 have a0 := fun x (hx : In R x) => Aa (j := 0) (HAb.out x hx) rfl
 have a1 := fun x (hx : In R x) => Aa (j := 1) (HAb.out x hx) rfl
 have a2 := fun x (hx : In R x) => Aa (j := 2) (HAb.out x hx) rfl
 have a3 := fun x (hx : In R x) => Aa (j := 3) (HAb.out x hx) rfl
 have a4 := fun x (hx : In R x) => Aa (j := 4) (HAb.out x hx) rfl
 have a5 := fun x (hx : In R x) => Aa (j := 5) (HAb.out x hx) rfl
 have a6 := fun x (hx : In R x) => Aa (j := 6) (HAb.out x hx) rfl
 have HKx := zh (fun x (hx : In R x) => ((hRb _ hx).block _ hKs).trans HK.out)
 have k0 := fun x (hx : In R x) => Aa (j := 0) (HKx.out x hx) rfl
 have HSz := zh (fun x (hx : In R x) => show w.heap.size + 2 ≤ x.heap.size from lt_of_block (HAb.out x hx))
 have HFo := zh (fun x (hx : In R x) => VJ K sa sc false a _ _ _ x (HKx.out x hx) (HA.out.below (hRb _ hx)))
 simp only [Jh] at HFo
 have jj := j0 _ hR1
 have b0 := a0 _ hR1
 have b1 := a1 _ hR1
 have b2 := a2 _ hR1
 have b3 := a3 _ hR1
 have b4 := a4 _ hR1
 have b5 := a5 _ hR1
 have b6 := a6 _ hR1
 clear ha h hc hK ht
 simp only [Jh]
 by_cases hf : Cn a = 0
 case neg =>
  have HE2 := zh (show Di l a = Cn a by rw [HE.out, if_pos hf])
  have q : (Cn a != 0) = true := by simpa using hf
  have HN := zh hf
  clear hf HE
  generalize Cn a = fe at *
  go_enter Tryz.func100, Tryz.ntmps100
  go_wp2_with fail
  refine (HFo.out _ hR1).mono ?_
  rintro e w1 ⟨rfl, hb1⟩
  have hR2 := hRn _ _ hR1 hb1
  clear hb1 jj b0 b1 b2 b3 b4 b5 b6
  have HB2 := zh (hRb _ hR2)
  go_wp2_with fail
  go_ret
  exact ⟨Ae HE2.out.symm, fun _ => HB2.out, fun h => absurd (HE2.out.symm.trans h) HN.out⟩
 obtain ⟨f1, f2, f3, f4⟩ := OT hf
 rw [if_neg (by simpa using hf)] at HE
 rw [hf] at HFo
 clear hf
 obtain ⟨i, hi⟩ : ∃ i : Nat, a.on = (i : Int) := ⟨a.on.toNat, by omega⟩
 have hi3 : i < 3 := by omega
 have Hoi := zh (show a.on.toNat = i by rw [hi]; rfl)
 rw [Hoi.out] at HE HL
 have Hi := zh hi
 clear hi
 by_cases g1 : a.kind = 1
 case pos =>
  rw [if_pos g1] at HE HL HD
  have qk : (a.kind == 1) = true := by simpa using g1
  clear g1 Hi Hoi
  have HRw := zh (fun x (hx : In R x) => SK l a.push a.up a.late _ _ _ _ _ x (H.out.below (hRb _ hx)) HC.out ⟨HA.out.objs.below (hRb _ hx), HA.out.upds.below (hRb _ hx)⟩ (HTw.out.below (hRb _ hx)))
  simp only [EH] at HRw
  obtain ⟨re, hre⟩ : ∃ re, re = BT l a.push a.up a.late := ⟨_, rfl⟩
  obtain ⟨rl, hrl⟩ : ∃ rl, rl = Bj l a.push a.up a.late := ⟨_, rfl⟩
  obtain ⟨rd, hrd⟩ : ∃ rd, rd = CD l a.push a.up a.late := ⟨_, rfl⟩
  rw [← hre, ← hrl, ← hrd] at HRw
  rw [← hre] at HE
  rw [← hrl] at HL
  rw [← hrd] at HD
  clear hre hrl hrd
  go_enter Tryz.func100, Tryz.ntmps100
  go_wp2_with fail
  refine (HFo.out _ hR1).mono ?_
  rintro e w1 ⟨rfl, hb1⟩
  have hR2 := hRn _ _ hR1 hb1
  clear hb1 jj b0 b1 b2 b3 b4 b5 b6
  have b0 := a0 _ hR2
  have b2 := a2 _ hR2
  have b3 := a3 _ hR2
  have b4 := a4 _ hR2
  have b5 := a5 _ hR2
  have b6 := a6 _ hR2
  go_upto_region 6 with fail
  clear b0 b2 b3 b4 b5 b6
  go_cut [6, 7, 8] (fun s6 s7 s8 wx => ∃ D6, s6 = .pointer (some ⟨D6, 0, none⟩) ∧ s7 = .bool rd ∧ s8 = .int .i64 re ∧ ∃ y, y = wx ∧ Hid (In R y ∧ w.heap.size + 2 ≤ D6 ∧ ∃ a6 c6, y.heap[D6]? = some (.cells #[.slice a6 rl.length c6] 66 (0, 0)) ∧ Ec w.heap.size y (.slice a6 rl.length c6) rl))
  case first =>
   obtain ⟨Q, hQ, hQ1, hQu⟩ := XH w1
   have hQb := hQ.below
   have hQn := hQ.next
   have HQu := zh hQu
   clear hQu
   have HQR := zh (fun x (hx : In Q x) => hRn _ _ hR2 (hQb _ hx))
   have hw1 := HSz.out _ hR2
   refine wp_region_held (S := In Q) (by kernel_rfl) ?_
   change wpAnyH _ _ _ _ _ _ _ _ (World.drew _)
   have hC0 := hQ.drew _ hQ1
   generalize hx0 : w1.drew = x0 at hC0 ⊢
   clear hx0
   refine tk 0 (.pointer (some ⟨K, 0, none⟩)) (fun w hSw => ?_) hC0 ?_
   ·have yy := j0 _ (HQR.out _ hSw); go_simp
   simp only [tkS]
   refine tk 1 (.pointer (some ⟨K, 0, none⟩)) (fun w hSw => ?_) hC0 ?_
   ·go_simp
   simp only [tkS]
   refine tk 2 (.pointer (some ⟨K, 0, none⟩)) (fun w hSw => ?_) hC0 ?_
   ·go_simp
   simp only [tkS]
   refine tk 3 (.agg #[.slice sa 3 sc]) (fun w hSw => ?_) hC0 ?_
   ·have yy := k0 _ (HQR.out _ hSw); go_simp
   simp only [tkS]
   refine tk 4 (.pointer (some ⟨w.heap.size + 1, 4, none⟩)) (fun w hSw => ?_) hC0 ?_
   ·go_simp
   simp only [tkS]
   refine tk 5 (.agg #[.slice oa a.push.objects.length oc, .slice ua a.push.updates.length uc, .bool a.push.force]) (fun w hSw => ?_) hC0 ?_
   ·have y4 := a4 _ (HQR.out _ hSw); have y5 := a5 _ (HQR.out _ hSw); have y6 := a6 _ (HQR.out _ hSw); go_simp
   simp only [tkS]
   refine tk 6 (.pointer (some ⟨w.heap.size + 1, 2, none⟩)) (fun w hSw => ?_) hC0 ?_
   ·go_simp
   simp only [tkS]
   refine tk 7 (.int .i64 a.up) (fun w hSw => ?_) hC0 ?_
   ·have y2 := a2 _ (HQR.out _ hSw); go_simp
   simp only [tkS]
   refine tk 8 (.pointer (some ⟨w.heap.size + 1, 3, none⟩)) (fun w hSw => ?_) hC0 ?_
   ·go_simp
   simp only [tkS]
   refine tk 9 (.int .i64 a.late) (fun w hSw => ?_) hC0 ?_
   ·have y3 := a3 _ (HQR.out _ hSw); go_simp
   simp only [tkS]
   refine al2 10 15 ?_ ?_
   ·skip
    refine Or.inl ?_
    go_wp2_with fail
    refine (HRw.out _ (HQR.out _ hC0)).mono ?_
    rintro e x20 ⟨v6, rfl, hv6, hb0⟩
    obtain ⟨a6, c6, rfl⟩ := hv6.shape
    have hC1 := hQn _ _ hC0 hb0
    have hsx := (HQR.out _ hC0)
    have hsy := (hRb _ hsx).size
    have Hv6 := zh (And.intro hv6 hsy)
    clear hv6 hb0 hsx hsy
    obtain ⟨B6, hB6⟩ : ∃ B6, B6 = x0.heap.size := ⟨_, rfl⟩
    rw [← hB6] at Hv6
    clear hB6
    generalize x20 = x1 at *
    go_simp
    refine tk 11 (.tuple #[.agg #[.slice a6 rl.length c6], .bool rd, .int .i64 re]) (fun w hSw => ?_) hC1 ?_
    ·go_simp
    simp only [tkS]
    refine tk 12 (.agg #[.slice a6 rl.length c6]) (fun w hSw => ?_) hC1 ?_
    ·go_simp
    simp only [tkS]
    refine tk 13 (.bool rd) (fun w hSw => ?_) hC1 ?_
    ·go_simp
    simp only [tkS]
    refine tk 14 (.int .i64 re) (fun w hSw => ?_) hC1 ?_
    ·go_simp
    simp only [tkS]
    refine al1 15 ?_
    refine Or.inl ?_
    have hC2 := hQ.alloc _ (.cells #[.slice none 0 0] 66) hC1
    go_simp
    have hbA : Below x1.heap.size x1 (x1.alloc (.cells #[.slice none 0 0] 66)) := bal
    have HDb := zh (heap_alloc_new x1 (.cells #[.slice none 0 0] 66))
    have HDge := zh (show w1.heap.size ≤ x1.heap.size from (hQb _ hC1).size)
    have Hlt := zh (show ∀ T : Nat → Prop, (∀ b, T b → b = x1.heap.size) → ∀ z, Av T (x1.alloc (.cells #[.slice none 0 0] 66)) z → Ec w.heap.size z (.slice a6 rl.length c6) rl from fun T hT z hu => by
     obtain ⟨F, hO, hF⟩ := Hv6.out.1
     exact (show Ec B6 z (.slice a6 rl.length c6) rl from ⟨F, (hO.below hbA).upd hu (fun b hb e => by have := hT b e; have := hO.lt hb; omega) (fun g hg e => by have := hT g e; have := (hO.block hg).2; omega), hF⟩).mono Hv6.out.2)
    clear hbA
    generalize x1.heap.size = D at *
    generalize x1.alloc (.cells #[.slice none 0 0] 66) = x2 at *
    refine al1 16 ?_
    refine Or.inl ?_
    have gz := Aa (j := 0) HDb.out rfl
    have fz := Ab (j := 0) HDb.out
    have Hu7 := zh (show Av (fun b => b = D) x2 (x2.setCell ⟨D, 0, none⟩ (.slice a6 rl.length c6)) from (Av.refl (fun b => b = D) _).setCell (p := ⟨D, 0, none⟩) (fun _ => rfl) _)
    have Hb7 := zh (Ad (j := 0) HDb.out (.slice a6 rl.length c6))
    have hC3 := HQu.out _ _ _ hC2 Hu7.out (fun b hb => by have := HDge.out; have e2 : b = D := hb; omega)
    have Hv7 := zh (Hlt.out _ (fun b hb => hb) _ Hu7.out)
    go_wp2_with fail
    first | refine ⟨hC3, ?_⟩ | skip
    change wpAnyH _ _ _ _ _ _ _ _ (x2.setCell ⟨D, 0, none⟩ (.slice a6 rl.length c6))
    clear gz fz Hu7
    generalize x2.setCell ⟨D, 0, none⟩ (.slice a6 rl.length c6) = x3 at *
    refine tk 17 (.bool rd) (fun w hSw => ?_) hC3 ?_
    ·go_simp
    simp only [tkS]
    refine al1 18 ?_
    refine Or.inl ?_
    go_wp2_with fail
    first | refine ⟨hC3, by kernel_rfl, ?_⟩ | refine ⟨by kernel_rfl, ?_⟩
    have HEnd := zh (show In R x3 ∧ w.heap.size + 2 ≤ D ∧ ∃ a6 c6, x3.heap[D]? = some (.cells #[.slice a6 rl.length c6] 66 (0, 0)) ∧ Ec w.heap.size x3 (.slice a6 rl.length c6) rl from ⟨HQR.out _ hC3, by have := HDge.out; omega, a6, c6, Hb7.out, Hv7.out⟩)
    go_wp2_with fail
    go_meet
    exact ⟨D, rfl, rfl, rfl, x3, rfl, HEnd⟩
   refine Or.inl ?_
   have hC1 := hQ.alloc _ (.cells #[.slice none 0 0] 66) hC0
   go_simp
   have hbA : Below x0.heap.size x0 (x0.alloc (.cells #[.slice none 0 0] 66)) := bal
   have HDb := zh (heap_alloc_new x0 (.cells #[.slice none 0 0] 66))
   have HDge := zh (show w1.heap.size ≤ x0.heap.size from (hQb _ hC0).size)
   clear hbA
   generalize x0.heap.size = D at *
   generalize x0.alloc (.cells #[.slice none 0 0] 66) = x1 at *
   refine al1 10 ?_
   refine Or.inl ?_
   go_wp2_with fail
   refine (HRw.out _ (HQR.out _ hC1)).mono ?_
   rintro e x21 ⟨v6, rfl, hv6, hb0⟩
   obtain ⟨a6, c6, rfl⟩ := hv6.shape
   have hC2 := hQn _ _ hC1 hb0
   have hsx := (HQR.out _ hC1)
   have hsy := (hRb _ hsx).size
   have HDx := zh (show D < x1.heap.size from lt_of_block HDb.out)
   replace HDb := zh (Ak HDb.out hb0)
   have Hv6 := zh (And.intro hv6 hsy)
   clear hv6 hb0 hsx hsy
   obtain ⟨B6, hB6⟩ : ∃ B6, B6 = x1.heap.size := ⟨_, rfl⟩
   rw [← hB6] at Hv6 HDx
   clear hB6
   generalize x21 = x2 at *
   go_simp
   refine tk 11 (.tuple #[.agg #[.slice a6 rl.length c6], .bool rd, .int .i64 re]) (fun w hSw => ?_) hC2 ?_
   ·go_simp
   simp only [tkS]
   refine tk 12 (.agg #[.slice a6 rl.length c6]) (fun w hSw => ?_) hC2 ?_
   ·go_simp
   simp only [tkS]
   refine tk 13 (.bool rd) (fun w hSw => ?_) hC2 ?_
   ·go_simp
   simp only [tkS]
   refine tk 14 (.int .i64 re) (fun w hSw => ?_) hC2 ?_
   ·go_simp
   simp only [tkS]
   refine al1 16 ?_
   refine Or.inl ?_
   have gz := Aa (j := 0) HDb.out rfl
   have fz := Ab (j := 0) HDb.out
   have Hu7 := zh (show Av (fun b => b = D) x2 (x2.setCell ⟨D, 0, none⟩ (.slice a6 rl.length c6)) from (Av.refl (fun b => b = D) _).setCell (p := ⟨D, 0, none⟩) (fun _ => rfl) _)
   have Hb7 := zh (Ad (j := 0) HDb.out (.slice a6 rl.length c6))
   have hC3 := HQu.out _ _ _ hC2 Hu7.out (fun b hb => by have := HDge.out; have e2 : b = D := hb; omega)
   have Hv7 := zh ((Hv6.out.1.upd Hu7.out (fun b hb _ e => by have := HDx.out; have e2 : b = D := e; omega)).mono Hv6.out.2)
   go_wp2_with fail
   first | refine ⟨hC3, ?_⟩ | skip
   change wpAnyH _ _ _ _ _ _ _ _ (x2.setCell ⟨D, 0, none⟩ (.slice a6 rl.length c6))
   clear gz fz Hu7
   generalize x2.setCell ⟨D, 0, none⟩ (.slice a6 rl.length c6) = x3 at *
   refine tk 17 (.bool rd) (fun w hSw => ?_) hC3 ?_
   ·go_simp
   simp only [tkS]
   refine al1 18 ?_
   refine Or.inl ?_
   go_wp2_with fail
   first | refine ⟨hC3, by kernel_rfl, ?_⟩ | refine ⟨by kernel_rfl, ?_⟩
   have HEnd := zh (show In R x3 ∧ w.heap.size + 2 ≤ D ∧ ∃ a6 c6, x3.heap[D]? = some (.cells #[.slice a6 rl.length c6] 66 (0, 0)) ∧ Ec w.heap.size x3 (.slice a6 rl.length c6) rl from ⟨HQR.out _ hC3, by have := HDge.out; omega, a6, c6, Hb7.out, Hv7.out⟩)
   go_wp2_with fail
   go_meet
   exact ⟨D, rfl, rfl, rfl, x3, rfl, HEnd⟩
  obtain ⟨D6, rfl, rfl, rfl, y6, rfl, HK6⟩ := hcut
  obtain ⟨hR6, hD6, a6, c6, hb6, ho6⟩ := HK6.out
  have HB6 := zh hb6
  have HO6 := zh ho6
  clear HK6 hb6 ho6
  by_cases hz : re = 0
  case neg =>
   have q : (re == 0) = false := by simpa using hz
   have HN := zh hz
   have HB2 := zh (hRb _ hR6)
   clear hz
   go_wp2_with fail
   go_ret
   exact ⟨Ae HE.out.symm, fun _ => HB2.out, fun h => absurd (HE.out.symm.trans h) HN.out⟩
  subst hz
  go_upto_region 8 with fail
  refine wp_region_held (S := In (fun x : World => x.cell? ⟨w.heap.size, 0, none⟩ = some (.pointer (some ⟨K, 0, none⟩)) ∧ x.cell? ⟨D6, 0, none⟩ = some (.slice a6 rl.length c6))) (by kernel_rfl) ?_
  change wpAnyH _ _ _ _ _ _ _ _ (World.drew _)
  have hR7 := hR.drew _ hR6
  have HB7 := zh (show y6.drew.heap[D6]? = _ from HB6.out)
  have HO7 := zh (HO6.out.below (Below.refl _ _).drew)
  generalize hx0 : y6.drew = x0 at hR7 HB7 HO7 ⊢
  clear hx0 HB6 HO6
  have hC0 : In (fun x : World => x.cell? ⟨w.heap.size, 0, none⟩ = some (.pointer (some ⟨K, 0, none⟩)) ∧ x.cell? ⟨D6, 0, none⟩ = some (.slice a6 rl.length c6)) x0 := show (fun x : World => x.cell? ⟨w.heap.size, 0, none⟩ = some (.pointer (some ⟨K, 0, none⟩)) ∧ x.cell? ⟨D6, 0, none⟩ = some (.slice a6 rl.length c6)) x0 from ⟨j0 _ hR7, Aa (j := 0) HB7.out rfl⟩
  have HKy := zh (HKx.out _ hR7)
  refine tk 0 (.pointer (some ⟨K, 0, none⟩)) (fun w hSw => ?_) hC0 ?_
  ·have yq : _ ∧ _ := hSw; have yy := yq.1; go_simp
  simp only [tkS]
  refine tk 1 (.pointer (some ⟨K, 0, none⟩)) (fun w hSw => ?_) hC0 ?_
  ·have yq : _ ∧ _ := hSw; have yy := yq.1; go_simp
  simp only [tkS]
  refine tk 2 (.agg #[.slice a6 rl.length c6]) (fun w hSw => ?_) hC0 ?_
  ·have yq : _ ∧ _ := hSw; have yy := yq.2; go_simp
  simp only [tkS]
  refine tk 3 (.bool rd) (fun w hSw => ?_) hC0 ?_
  ·go_simp
  simp only [tkS]
  refine tk 4 (.pointer (some ⟨K, 0, none⟩)) (fun w hSw => ?_) hC0 ?_
  ·go_simp
  simp only [tkS]
  refine tk 5 (.pointer (some ⟨K, 0, none⟩)) (fun w hSw => ?_) hC0 ?_
  ·go_simp
  simp only [tkS]
  refine al1 6 ?_
  refine Or.inl ?_
  have m0 := Aa (j := 0) HKy.out rfl
  have n0 := Ab (j := 0) HKy.out
  have Hu7 := zh (show Av (fun b => b = K) x0 (x0.setCell ⟨K, 0, none⟩ (.slice a6 rl.length c6)) from (Av.refl (fun b => b = K) _).setCell (p := ⟨K, 0, none⟩) (fun _ => rfl) _)
  have Hs0 := zh (Ad (j := 0) HKy.out (.slice a6 rl.length c6))
  have hq := (show _ ∧ _ from hC0)
  have hC1 : In (fun x : World => x.cell? ⟨w.heap.size, 0, none⟩ = some (.pointer (some ⟨K, 0, none⟩)) ∧ x.cell? ⟨D6, 0, none⟩ = some (.slice a6 rl.length c6)) (x0.setCell ⟨K, 0, none⟩ (.slice a6 rl.length c6)) := show (fun x : World => x.cell? ⟨w.heap.size, 0, none⟩ = some (.pointer (some ⟨K, 0, none⟩)) ∧ x.cell? ⟨D6, 0, none⟩ = some (.slice a6 rl.length c6)) (x0.setCell ⟨K, 0, none⟩ (.slice a6 rl.length c6)) from ⟨Hu7.out.cell hq.1 (fun e => by have e2 : w.heap.size = K := e; omega), Hu7.out.cell hq.2 (fun e => by have e2 : D6 = K := e; omega)⟩
  clear hq
  go_wp2_with fail
  first | refine ⟨hC1, ?_⟩ | skip
  change wpAnyH _ _ _ _ _ _ _ _ (x0.setCell ⟨K, 0, none⟩ (.slice a6 rl.length c6))
  clear m0 n0
  generalize x0.setCell ⟨K, 0, none⟩ (.slice a6 rl.length c6) = x1 at *
  refine tk 7 (.pointer (some ⟨K, 0, none⟩)) (fun w hSw => ?_) hC1 ?_
  ·go_simp
  simp only [tkS]
  refine tk 8 (.pointer (some ⟨K, 1, none⟩)) (fun w hSw => ?_) hC1 ?_
  ·go_simp
  simp only [tkS]
  refine al1 9 ?_
  refine Or.inl ?_
  have m0 := Aa (j := 1) Hs0.out rfl
  have n0 := Ab (j := 1) Hs0.out
  have Hu8 := zh (show Av (fun b => b = K) x1 (x1.setCell ⟨K, 1, none⟩ (.bool rd)) from (Av.refl (fun b => b = K) _).setCell (p := ⟨K, 1, none⟩) (fun _ => rfl) _)
  have Hs1 := Ad (j := 1) Hs0.out (.bool rd)
  simp only [List.setIfInBounds_toArray, List.set_cons_zero, List.set_cons_succ] at Hs1
  have hq := (show _ ∧ _ from hC1)
  have hC2 : In (fun x : World => x.cell? ⟨w.heap.size, 0, none⟩ = some (.pointer (some ⟨K, 0, none⟩)) ∧ x.cell? ⟨D6, 0, none⟩ = some (.slice a6 rl.length c6)) (x1.setCell ⟨K, 1, none⟩ (.bool rd)) := show (fun x : World => x.cell? ⟨w.heap.size, 0, none⟩ = some (.pointer (some ⟨K, 0, none⟩)) ∧ x.cell? ⟨D6, 0, none⟩ = some (.slice a6 rl.length c6)) (x1.setCell ⟨K, 1, none⟩ (.bool rd)) from ⟨Hu8.out.cell hq.1 (fun e => by have e2 : w.heap.size = K := e; omega), Hu8.out.cell hq.2 (fun e => by have e2 : D6 = K := e; omega)⟩
  clear hq
  have HB9 := hRb _ hR7
  have HEnd := zh (show Av (fun b => b = K) w (x1.setCell ⟨K, 1, none⟩ (.bool rd)) ∧ ∃ v', (x1.setCell ⟨K, 1, none⟩ (.bool rd)).heap[K]? = some (.cells #[v', .bool rd] 145 (0, 0)) ∧ Ec w.heap.size (x1.setCell ⟨K, 1, none⟩ (.bool rd)) v' rl from
   ⟨(((Dj HB9).weaken fun b hb h => by have h2 : w.heap.size ≤ b := h; omega).trans Hu7.out (fun _ _ h => h)).trans Hu8.out (fun _ _ h => h), _, Hs1, ((HO7.out.upd Hu7.out (fun b hb _ e => by have e2 : b = K := e; omega)).upd Hu8.out (fun b hb _ e => by have e2 : b = K := e; omega))⟩)
  clear Hs1 HB9
  go_wp2_with fail
  first | refine ⟨by kernel_rfl, ?_⟩ | refine ⟨hC2, by kernel_rfl, ?_⟩
  first | change Exit.then _ _ _ _ (x1.setCell ⟨K, 1, none⟩ (.bool rd)) | change Exit.inBlock _ _ _ _ (x1.setCell ⟨K, 1, none⟩ (.bool rd))
  clear m0 n0 hC2
  generalize x1.setCell ⟨K, 1, none⟩ (.bool rd) = x2 at *
  go_wp2_with fail
  go_ret
  exact ⟨Ae HE.out.symm, fun h => absurd HE.out h, fun _ => by rw [HL.out, HD.out]; exact HEnd.out⟩
 rw [if_neg g1] at HE HL HD
 have qk : (a.kind == 1) = false := by simpa using g1
 by_cases g2 : a.kind = 2
 case pos =>
  rw [if_pos g2] at HE HL
  have qk2 : (a.kind == 2) = true := by simpa using g2
  clear g1 g2
  have HBe := zh (fun x (hx : In R x) => MV l _ _ x (H.out.below (hRb _ hx)))
  go_enter Tryz.func100, Tryz.ntmps100
  go_wp2_with fail
  refine (HFo.out _ hR1).mono ?_
  rintro e w1 ⟨rfl, hb1⟩
  have hR2 := hRn _ _ hR1 hb1
  clear hb1 jj b0 b1 b2 b3 b4 b5 b6
  have b0 := a0 _ hR2
  have jj := j0 _ hR2
  have kk := k0 _ hR2
  go_wp2_with fail
  refine (HBe.out _ hR2).mono ?_
  rintro e w2 ⟨rfl, hb2⟩
  have hR3 := hRn _ _ hR2 hb2
  clear hb2 b0 jj kk HBe
  have hbl : Co l < 3 := by have := GL (l := l) (by have := HC.out.len; omega); have := HC.out.len; omega
  generalize hbe : Co l = bi at *
  clear hbe
  have hR4 := hR.alloc _ (.cells #[.int .i64 (bi : Int)] 3) hR3
  have HDb := zh (heap_alloc_new w2 (.cells #[.int .i64 (bi : Int)] 3))
  have b1 := a1 _ hR4
  have jj := j0 _ hR4
  have HBk := zh (hRb _ hR4)
  have HWi := zh (JB K 164 i sa sc false #[.pointer (some ⟨w.heap.size, 0, none⟩), .pointer (some ⟨w2.heap.size, 0, none⟩)] l _ _ S (fun x => x.heap[K]? = some (.cells #[.slice sa 3 sc, .bool false] 145 (0, 0)) ∧ x.heap[w.heap.size]? = some (.cells #[.pointer (some ⟨K, 0, none⟩)] 143 (0, 0)) ∧ x.heap[w2.heap.size]? = some (.cells #[.int .i64 (bi : Int)] 3 (0, 0)) ∧ AJ S x (.slice sa 3 sc) l) (w2.alloc (.cells #[.int .i64 (bi : Int)] 3)) (HKx.out _ hR4) (H.out.below (hRb _ hR4)) HC.out.len hi3
   ⟨HKx.out _ hR4, HJ.out _ hR4, HDb.out, H.out.below (hRb _ hR4)⟩ (fun x z h hb => ⟨Ak h.1 hb, Ak h.2.1 hb, Ak h.2.2.1 hb, h.2.2.2.below hb⟩) (fun _ _ => rfl)
   (fun x sv rv ov uv S2 hx hr => XJ K w.heap.size w2.heap.size bi sa sc false l (Af l i) sv rv ov uv S S2 x hx.1 hx.2.1 hx.2.2.1 hx.2.2.2 HC.out.len hbl hr ((BR (Eo (Bg.2 (HC.out.each bi hbl)))).1) (Eo (Bg.2 (HC.out.each i hi3)))))
  rw [← Hi.out] at HWi
  go_wp2_with fail
  refine HWi.out.mono ?_
  rintro e x9 ⟨rfl, h1, h2⟩
  have HW := zh (And.intro h1 h2)
  clear h1 h2
  go_wp2_with fail
  go_ret
  refine ⟨Ae HE.out.symm, fun h => ?_, fun h => ?_⟩
  ·exact HBk.out.trans ((HW.out.1 (by rw [← HE.out]; exact h)).mono HBk.out.size)
  ·obtain ⟨hu, v9, hk9, ho9⟩ := HW.out.2 (by rw [← HE.out]; exact h)
   rw [HL.out, HD.out]
   exact ⟨((Dj HBk.out).weaken fun b hb h => by have h2 : w.heap.size ≤ b := h; omega).trans hu (fun _ _ h => h), v9, hk9, ho9.mono HBk.out.size⟩
 rw [if_neg g2] at HE HL
 have qk2 : (a.kind == 2) = false := by simpa using g2
 clear g1 g2
 go_enter Tryz.func100, Tryz.ntmps100
 go_wp2_with fail
 refine (HFo.out _ hR1).mono ?_
 rintro e w1 ⟨rfl, hb1⟩
 have hR2 := hRn _ _ hR1 hb1
 clear hb1 jj b0 b1 b2 b3 b4 b5 b6
 have b0 := a0 _ hR2
 have b1 := a1 _ hR2
 have jj := j0 _ hR2
 have HBk := zh (hRb _ hR2)
 have hrc := Bg.2 (HC.out.each i hi3)
 have HWi := zh (JB K 23 i sa sc false #[] l (DD (Af l i)) 0 S (fun _ => True) w1 (HKx.out _ hR2) (H.out.below (hRb _ hR2)) HC.out.len hi3 trivial (fun _ _ _ _ => trivial) (fun _ _ => rfl)
  (fun x sv rv ov uv S2 _ hr => by
   have hC := UH (Af l i) sv rv ov uv S2 x hr
   rw [hrc, show Ns (Af l i) = DD (Af l i) by unfold Ns; rw [if_pos hrc]] at hC
   exact hC))
 rw [← Hi.out] at HWi
 go_wp2_with fail
 refine HWi.out.mono ?_
 rintro e x9 ⟨rfl, h1, h2⟩
 have HW := zh (And.intro h1 h2)
 clear h1 h2
 go_wp2_with fail
 go_ret
 refine ⟨Ae HE.out.symm, fun h => ?_, fun h => ?_⟩
 ·exact absurd HE.out h
 ·obtain ⟨hu, v9, hk9, ho9⟩ := HW.out.2 (by first | trivial | rfl)
  rw [HL.out, HD.out]
  exact ⟨((Dj HBk.out).weaken fun b hb h => by have h2 : w.heap.size ≤ b := h; omega).trans hu (fun _ _ h => h), v9, hk9, ho9.mono HBk.out.size⟩
theorem Xt {l a : List Obj} (hs : ∀ x ∈ l, x ∈ a) (ha : AC a) : Ey l a = 0 ∧ CC l a = [] := by
 have h0 : Ey l a = 0 := ON.2 fun x hx _ => (ha.isAt_mem (hs x hx)).2
 refine ⟨h0, ?_⟩
 unfold CC
 rw [if_pos h0]
 unfold II
 rw [List.filter_eq_nil_iff]
 intro x hx
 unfold Mj
 rw [(ha.isAt_mem (hs x hx)).1]; simp
theorem Xr {l more : List Obj} (h : BY l more = 0) : Ag (Ch l more) = 0 ∧ ∀ x, x ∈ Ch l more ↔ x ∈ l ∨ x ∈ more := by
 have e : Ch l more = Ar l more more.length := by unfold Ch; rw [if_pos h]
 unfold BY at h
 by_cases h2 : Ap (BO l more) more.length = 0
 ·rw [if_pos h2] at h
  rw [e]
  exact ⟨h, fun x => by rw [FH (Nat.le_refl _) h2 x, List.take_length]⟩
 ·rw [if_neg h2] at h; exact absurd h h2
structure Lp (n r a : An) : Prop where
 newer : Al n = 0
 older : Al r = 0
 refs : a.refs = n.refs
 gen : a.gen = n.gen
 phase : a.phase = 0
 pend : a.pend = CX
 store : Ag a.store = 0
 mem : ∀ x, x ∈ a.store ↔ x ∈ r.store ∨ x ∈ n.store
theorem XX {n r : An} (h : QY n r = 0) : Lp n r (QX n r) := by
 have hR : QX n r = BI n r := by unfold QX; rw [if_pos h]
 unfold QY at h
 split at h
 ·rename_i h1; exact absurd h h1
 ·rename_i h1
  split at h
  ·rename_i h2; exact absurd h h2
  ·rename_i h2
   have hn : Al n = 0 := by simpa using h1
   have hr : Al r = 0 := by simpa using h2
   have hR2 : BI n r = ⟨Ch r.store (CC n.store r.store), n.refs, n.gen, 0, CX⟩ := by unfold BI; rw [if_pos h]
   unfold BV at h
   split at h
   ·cases h
   ·split at h
    ·rename_i h3; exact absurd h h3
    ·rename_i h3
     have h4 : Ey n.store r.store = 0 := by simpa using h3
     obtain ⟨hc, hm⟩ := Xr h
     rw [hR, hR2]
     refine ⟨hn, hr, rfl, rfl, rfl, rfl, hc, fun x => ?_⟩
     rw [hm]
     have hl : CC n.store r.store = II n.store r.store := by unfold CC; rw [if_pos h4]
     rw [hl]
     constructor
     ·rintro (hx | hx)
      ·exact .inl hx
      ·exact .inr (Rt.1 hx).1
     ·rintro (hx | hx)
      ·exact .inl hx
      ·cases hi : CK r.store x.id
       ·exact .inr (Rt.2 ⟨hx, hi⟩)
       ·left
        have := ON.1 h4 x hx hi
        rw [← this]
        exact FN (KV hi).1
theorem Vi {l a : List Obj} (hs : ∀ x ∈ l, x ∈ a) (ha : AC a) {id : Int} {k : Int} (h : Az l id = k) (hk : k ≠ 0) : Az a id = k := by
 obtain ⟨j, hj, he, hkj⟩ := Fw (by rw [h]; exact hk)
 obtain ⟨i, hi, e⟩ := GX (hs _ (FN hj))
 have := ha.kind_self hi
 rw [e, he] at this
 rw [this, ← hkj, h]
theorem WN {l : List Rf} {s a : List Obj} (hs : ∀ x ∈ s, x ∈ a) (ha : Ag a = 0) (h : Aq l s = 0) : Aq l a = 0 := by
 have hs0 := (Bq.1 h).1
 have h1 : AD l s = 0 := by unfold Aq at h; rw [if_neg (by simpa using hs0)] at h; exact h
 have e : ∀ i, i < l.length → BN l s i = 0 → BN l a i = 0 := fun i hi h0 => by
  rw [IB] at h0 ⊢
  exact ⟨h0.1, h0.2.1, Vi hs (AR ha) h0.2.2 (by decide)⟩
 unfold Aq
 rw [if_neg (by simpa using ha)]
 unfold AD at h1 ⊢
 split at h1
 ·cases h1
 ·rename_i h8
  rw [if_neg h8]
  split at h1
  ·rename_i h2; exact absurd h1 h2
  ·rename_i h2
   have h3 : Ap (BN l s) l.length = 0 := by simpa using h2
   have h4 : Ap (BN l a) l.length = 0 := AW fun i hi => e i hi (Bh h3 i hi)
   rw [if_neg (by simpa using h4)]; exact h1
theorem Qa {r : An} (h : Al r = 0) : Aq r.refs r.store = 0 ∧ within r.gen 0 999 = true := by
 unfold Al at h
 split at h
 ·rename_i h1; exact absurd h h1
 ·rename_i h1
  refine ⟨by simpa using h1, ?_⟩
  split at h
  ·cases h
  ·rename_i h2; simpa using h2
theorem Lp.right {n r a : An} (h : Lp n r a) : Al a = 0 := by
 obtain ⟨h1, h2⟩ := Qa h.newer
 unfold Al
 have hc : Aq a.refs a.store = 0 := by rw [h.refs]; exact WN (fun x hx => (h.mem x).2 (.inr hx)) h.store h1
 rw [if_neg (by simpa using hc), h.gen, h2, h.phase, h.pend]
 simp [within, BK, CX]
theorem Lp.diff {n r a : An} (h : Lp n r a) {s : List Obj} (hc : Ag s = 0) (hs : ∀ x ∈ s, x ∈ a.store) : Tv s a.store = 0 ∧ XU s a.store = [] := by
 obtain ⟨e1, e2⟩ := Xt hs (AR h.store)
 have h0 : Tv s a.store = 0 := by unfold Tv; rw [if_neg (by simpa using hc), if_neg (by simpa using h.store)]; exact e1
 refine ⟨h0, ?_⟩
 unfold XU; rw [if_pos h0]
 unfold CC at e2; rw [if_pos e1] at e2; exact e2
theorem Oi {n r : An} (hn : Ct n) (hr : Ct r) (h : BV n r = 0) : Lp n r (BI n r) := by
 have e1 : QY n r = 0 := by
  unfold QY
  rw [if_neg (by simpa using Bg.2 hn), if_neg (by simpa using Bg.2 hr)]; exact h
 have e2 : QX n r = BI n r := by unfold QX; rw [if_pos e1]
 rw [← e2]; exact XX e1
theorem JK {l : List An} (hl : l.length = 3) : Co l < 3 ∧ ∀ k, k < 3 → (Af l k).gen ≤ (Af l (Co l)).gen := by
 refine ⟨by have := GL (l := l) (by omega); omega, fun k hk => (IT l l.length).1 k (by omega)⟩
structure Qd (l : List An) (i : Nat) (r : An) : Prop where
 i3 : i < 3
 right : Ct r
 has : ∃ m, m < 3 ∧ r.gen = (Af l m).gen ∧ r.refs = (Af l m).refs ∧ (m = i ∨ m = Co l)
theorem Qd.at {l : List An} {i : Nat} {r : An} (h : Qd l i r) (hc : Be l) {k : Nat} (hk : k < 3) : ∃ m, m < 3 ∧ (Af (l.set i r) k).gen = (Af l m).gen ∧ (Af (l.set i r) k).refs = (Af l m).refs ∧ (m = k ∨ m = Co l) := by
 rw [DV (by have := hc.len; omega)]
 by_cases e : k = i
 ·subst e; rw [if_pos rfl]; exact h.has
 ·rw [if_neg e]; exact ⟨k, hk, rfl, rfl, .inl rfl⟩
theorem Qd.top {l : List An} {i : Nat} {r : An} (h : Qd l i r) (hc : Be l) {k : Nat} (hk : k < 3) (hg : (Af l k).gen = (Af l (Co l)).gen) : (Af (l.set i r) k).gen = (Af l (Co l)).gen := by
 obtain ⟨m, _, e, _, h4⟩ := h.at hc hk
 rw [e]
 rcases h4 with rfl | rfl
 ·exact hg
 ·rfl
theorem Qd.most {l : List An} {i : Nat} {r : An} (h : Qd l i r) (hc : Be l) {k : Nat} (hk : k < 3) : (Af (l.set i r) k).gen ≤ (Af l (Co l)).gen := by
 obtain ⟨m, hm, e, _, _⟩ := h.at hc hk
 rw [e]; exact (JK hc.len).2 m hm
theorem Uc {l : List An} {i : Nat} {r : An} (hc : Be l) (h : Qd l i r) : Be (l.set i r) := by
 obtain ⟨hb, hm⟩ := JK hc.len
 refine ⟨by rw [List.length_set]; exact hc.len, fun k hk => ?_, fun a b ha hb2 e => ?_, ?_⟩
 ·rw [DV (by have := hc.len; omega)]
  split
  ·exact h.right
  ·exact hc.each k hk
 ·obtain ⟨m, m3, e1, e2, _⟩ := h.at hc ha
  obtain ⟨n, n3, e3, e4, _⟩ := h.at hc hb2
  rw [e2, e4]
  exact hc.refs m n m3 n3 (by rw [← e1, ← e3]; exact e)
 ·obtain ⟨x, y, hxy, hy, exy, hmx⟩ := hc.top
  have gx : (Af l x).gen = (Af l (Co l)).gen := by have := hm x (by omega); have := hmx _ hb; omega
  have gy : (Af l y).gen = (Af l (Co l)).gen := by omega
  exact ⟨x, y, hxy, hy, by rw [h.top hc (by omega) gx, h.top hc hy gy], fun k hk => by rw [h.top hc (by omega) gx]; exact h.most hc hk⟩
theorem Pu {l : List An} {a : Ac} (hc : Be l) (he : Di l a = 0) (hk : a.kind ≠ 1) : ∃ i r, Ej l a = l.set i r ∧ Qd l i r := by
 have hf : Cn a = 0 := by unfold Di at he; split at he; rename_i h; exact absurd he h; rename_i h; simpa using h
 obtain ⟨_, _, h3, h4⟩ := OT hf
 have hi : a.on.toNat < 3 := by omega
 unfold Di at he
 rw [if_neg (by simpa using hf), if_neg hk] at he
 unfold Ej
 rw [if_neg hk]
 by_cases h2 : a.kind = 2
 ·rw [if_pos h2] at he ⊢
  have hb := (JK hc.len).1
  have hm := Oi (hc.each _ hb) (hc.each _ hi) he
  exact ⟨_, _, rfl, hi, Bg.1 hm.right, Co l, hb, hm.gen, hm.refs, .inr rfl⟩
 ·rw [if_neg h2]
  exact ⟨_, _, rfl, hi, SD (hc.each _ hi), _, hi, rfl, rfl, .inl rfl⟩
theorem Lf {l : List An} {a : Ac} (hc : Be l) (he : Di l a = 0) : Be (Ej l a) := by
 by_cases hk : a.kind = 1
 ·have hp : BT l a.push a.up a.late = 0 := by
   unfold Di at he
   split at he
   ·rename_i h; exact absurd he h
   ·first | exact he | (rw [if_pos hk] at he; exact he)
  unfold Ej; rw [if_pos hk]; exact Sj hc hp
 ·obtain ⟨i, r, e, h⟩ := Pu hc he hk
  rw [e]; exact Uc hc h
def YP : Ac := ⟨0, 0, 0, 0, CX⟩
def ac (l : List Ac) (i : Nat) : Ac := at_ YP l i
def Fc (l : List An) (a : Ac) : List An := if Di l a = 0 then Ej l a else l
def EY (l : List An) (a : Ac) : Bool := if Di l a = 0 then LU l a else false
def US : List An := [Ds, Ds, Ds]
def Ek (s : List Ac) : Nat → List An
 | 0 => US
 | k + 1 => Fc (Ek s k) (ac s k)
def Qj (s : List Ac) : Nat → List Bool
 | 0 => []
 | k + 1 => Qj s k ++ [EY (Ek s k) (ac s k)]
def KW (s : List Ac) : Nat → List Int
 | 0 => []
 | k + 1 => KW s k ++ [Di (Ek s k) (ac s k)]
theorem LA (s : List Ac) : ∀ k, (KW s k).length = k
 | 0 => rfl
 | k + 1 => by unfold KW; rw [List.length_append, LA s k]; rfl
theorem Um : Be US := Eg.1 (by decide +kernel)
theorem NK {l : List An} {a : Ac} (h : Be l) : Be (Fc l a) := by
 unfold Fc
 split
 ·exact Lf h (by assumption)
 ·exact h
theorem Fr (s : List Ac) : ∀ k, Be (Ek s k)
 | 0 => Um
 | k + 1 => NK (Fr s k)
end Go.Proofs.YtjdgpgfiomnjkaaGreatDoor
