/- DeskC: walks of desk. -/
import Derived.Test.YtjdgpgfiomnjkaaGreatDoorR30
set_option linter.all false
set_option maxHeartbeats 16000000
set_option maxRecDepth 100000
namespace Go.Proofs.YtjdgpgfiomnjkaaGreatDoor
open Go.RowKit
def DN (l : List An) (a : Ac) : Int := if Co a ≠ 0 then Co a else if a.kind = 1 then BT l a.push a.up a.late else if a.kind = 2 then BX (Ai l (CR l)) (Ai l a.on.toNat) else 0
def En (l : List An) (a : Ac) : List An := if a.kind = 1 then Bh l a.push a.up a.late else if a.kind = 2 then l.set a.on.toNat (BF (Ai l (CR l)) (Ai l a.on.toNat)) else l.set a.on.toNat (DD (Ai l a.on.toNat))
def LI (l : List An) (a : Ac) : Bool := if a.kind = 1 then CC l a.push a.up a.late else true
theorem Ot {a : Ac} (h : Co a = 0) : 1 ≤ a.kind ∧ a.kind ≤ 3 ∧ 0 ≤ a.on ∧ a.on < 3 := by
 unfold Co at h
 split at h
 ·cases h
 ·split at h
  ·cases h
  ·split at h
   ·cases h
   ·omega
theorem Ef.mono {B B' : Nat} {w : World} {v : Value} {l : List An} (h : Ef B w v l) (hB : B' ≤ B) : Ef B' w v l := by
 obtain ⟨F, hO, hF⟩ := h
 exact ⟨F, hO.weaken (fun _ h => h) (fun b hb => ⟨hO.lt hb, hO.own hb⟩) hB, fun b hb => by have := hF b hb; omega⟩
theorem Ef.upd {B : Nat} {T : Nat → Prop} {w w' : World} {v : Value} {l : List An} (h : Ef B w v l) (hu : Aq T w w') (hT : ∀ b, B ≤ b → b < w.heap.size → ¬ T b) : Ef B w' v l := by
 obtain ⟨F, hO, hF⟩ := h
 exact ⟨F, hO.upd hu (fun b hb => hT b (hF b hb) (hO.lt hb)) (fun g hg => hT g (hO.block hg).1 (hO.block hg).2), hF⟩
theorem Ef.shape {B : Nat} {w : World} {v : Value} {l : List An} (h : Ef B w v l) : ∃ a c, v = .slice a l.length c := let ⟨_, hO, _⟩ := h; hO.shape
theorem Ef.below {B : Nat} {w w' : World} {v : Value} {l : List An} (h : Ef B w v l) (hb : Below w.heap.size w w') : Ef B w' v l := by
 obtain ⟨F, hO, hF⟩ := h
 exact ⟨F, hO.below hb, hF⟩
def Ww (K : Nat) (w w' : World) (E : Int) (l : List An) (d : Bool) : Prop := (E ≠ 0 → Below w.heap.size w w') ∧ (E = 0 → Aq (fun b => b = K) w w' ∧ ∃ v', w'.heap[K]? = some (.cells #[v', .bool d] 145 (0, 0)) ∧ Ef w.heap.size w' v' l)
theorem Lq (K : Nat) (sa : Option Addr) (sc : Nat) (l : List An) (a : Ac) (ov uv : Value) (S S1 : Nat → Prop) (w : World) (hK : w.heap[K]? = some (.cells #[.slice sa 3 sc, .bool false] 145 (0, 0))) (h : AE S w (.slice sa 3 sc) l) (hc : By l) (ha : EE S1 w a ov uv) (ht : QY w) :
  Calls Tryz.prog 100 #[.pointer (some ⟨K, 0, none⟩), KJ a ov uv] w fun e w' => e = .returned (.int .i64 (DN l a)) ∧ Ww K w w' (DN l a) (En l a) (LI l a) := by
 obtain ⟨oa, oc, rfl⟩ := ha.objs.vshape
 obtain ⟨⟨ua, uc⟩, rfl⟩ := ha.upds.shape
 have HA := zh ha
 have H := zh h
 have HC := zh hc
 have HK := zh hK
 have HTw := zh ht
 have hKs : K < w.heap.size := lt_of_block hK
 have HE := zh (show DN l a = if Co a ≠ 0 then Co a else if a.kind = 1 then BT l a.push a.up a.late else if a.kind = 2 then BX (Ai l (CR l)) (Ai l a.on.toNat) else 0 from rfl)
 have HL := zh (show En l a = if a.kind = 1 then Bh l a.push a.up a.late else if a.kind = 2 then l.set a.on.toNat (BF (Ai l (CR l)) (Ai l a.on.toNat)) else l.set a.on.toNat (DD (Ai l a.on.toNat)) from rfl)
 have HD := zh (show LI l a = if a.kind = 1 then CC l a.push a.up a.late else true from rfl)
 obtain ⟨R, hR, hR1, HB0⟩ := AL w [.cells #[.pointer (some ⟨K, 0, none⟩)] 143, .cells #[.int .i64 a.kind, .int .i64 a.on, .int .i64 a.up, .int .i64 a.late, .slice oa a.push.objects.length oc, .slice ua a.push.updates.length uc, .bool a.push.force] 68]
 simp only [List.foldl] at hR1
 have hRb := hR.below
 have hRn := hR.next
 have HJ := zh (fun x (hx : In R x) => show x.heap[w.heap.size]? = some (.cells #[.pointer (some ⟨K, 0, none⟩)] 143 (0, 0)) from HB0 x hx 0 _ rfl)
 have HAb := zh (fun x (hx : In R x) => HB0 x hx 1 _ rfl)
 clear HB0
 have j0 := fun x (hx : In R x) => Aa (j := 0) (HJ.out x hx) rfl
 have a0 := fun x (hx : In R x) => Aa (j := 0) (HAb.out x hx) rfl
 have a1 := fun x (hx : In R x) => Aa (j := 1) (HAb.out x hx) rfl
 have a2 := fun x (hx : In R x) => Aa (j := 2) (HAb.out x hx) rfl
 have a3 := fun x (hx : In R x) => Aa (j := 3) (HAb.out x hx) rfl
 have a4 := fun x (hx : In R x) => Aa (j := 4) (HAb.out x hx) rfl
 have a5 := fun x (hx : In R x) => Aa (j := 5) (HAb.out x hx) rfl
 have a6 := fun x (hx : In R x) => Aa (j := 6) (HAb.out x hx) rfl
 have HKx := zh (fun x (hx : In R x) => ((hRb _ hx).block _ hKs).trans HK.out)
 have k0 := fun x (hx : In R x) => Aa (j := 0) (HKx.out x hx) rfl
 have HSz := zh (fun x (hx : In R x) => show w.heap.size + 2 ≤ x.heap.size from lt_of_block (HAb.out x hx))
 have HFo := zh (fun x (hx : In R x) => VI K sa sc false a _ _ _ x (HKx.out x hx) (HA.out.below (hRb _ hx)))
 simp only [KJ] at HFo
 have jj := j0 _ hR1
 have b0 := a0 _ hR1
 have b1 := a1 _ hR1
 have b2 := a2 _ hR1
 have b3 := a3 _ hR1
 have b4 := a4 _ hR1
 have b5 := a5 _ hR1
 have b6 := a6 _ hR1
 clear ha h hc hK ht
 simp only [KJ]
 by_cases hf : Co a = 0
 case neg =>
  have HE2 := zh (show DN l a = Co a by rw [HE.out, if_pos hf])
  have q : (Co a != 0) = true := by simpa using hf
  have HN := zh hf
  clear hf HE
  generalize Co a = fe at *
  go_enter Tryz.func100, Tryz.ntmps100
  go_wp2_with fail
  refine (HFo.out _ hR1).mono ?_
  rintro e w1 ⟨rfl, hb1⟩
  have hR2 := hRn _ _ hR1 hb1
  clear hb1 jj b0 b1 b2 b3 b4 b5 b6
  have HB2 := zh (hRb _ hR2)
  go_wp2_with fail
  go_ret
  exact ⟨Ae HE2.out.symm, fun _ => HB2.out, fun h => absurd (HE2.out.symm.trans h) HN.out⟩
 obtain ⟨f1, f2, f3, f4⟩ := Ot hf
 rw [if_neg (by simpa using hf)] at HE
 rw [hf] at HFo
 clear hf
 obtain ⟨i, hi⟩ : ∃ i : Nat, a.on = (i : Int) := ⟨a.on.toNat, by omega⟩
 have hi3 : i < 3 := by omega
 have Hoi := zh (show a.on.toNat = i by rw [hi]; rfl)
 rw [Hoi.out] at HE HL
 have Hi := zh hi
 clear hi
 by_cases g1 : a.kind = 1
 case pos =>
  rw [if_pos g1] at HE HL HD
  have qk : (a.kind == 1) = true := by simpa using g1
  clear g1 Hi Hoi
  have HRw := zh (fun x (hx : In R x) => Sb l a.push a.up a.late _ _ _ _ _ x (H.out.below (hRb _ hx)) HC.out ⟨HA.out.objs.below (hRb _ hx), HA.out.upds.below (hRb _ hx)⟩ (HTw.out.below (hRb _ hx)))
  simp only [Fe] at HRw
  obtain ⟨re, hre⟩ : ∃ re, re = BT l a.push a.up a.late := ⟨_, rfl⟩
  obtain ⟨rl, hrl⟩ : ∃ rl, rl = Bh l a.push a.up a.late := ⟨_, rfl⟩
  obtain ⟨rd, hrd⟩ : ∃ rd, rd = CC l a.push a.up a.late := ⟨_, rfl⟩
  rw [← hre, ← hrl, ← hrd] at HRw
  rw [← hre] at HE
  rw [← hrl] at HL
  rw [← hrd] at HD
  clear hre hrl hrd
  go_enter Tryz.func100, Tryz.ntmps100
  go_wp2_with fail
  refine (HFo.out _ hR1).mono ?_
  rintro e w1 ⟨rfl, hb1⟩
  have hR2 := hRn _ _ hR1 hb1
  clear hb1 jj b0 b1 b2 b3 b4 b5 b6
  have b0 := a0 _ hR2
  have b2 := a2 _ hR2
  have b3 := a3 _ hR2
  have b4 := a4 _ hR2
  have b5 := a5 _ hR2
  have b6 := a6 _ hR2
  go_upto_region 6 with fail
  clear b0 b2 b3 b4 b5 b6
  go_cut [6, 7, 8] (fun s6 s7 s8 wx => ∃ D6, s6 = .pointer (some ⟨D6, 0, none⟩) ∧ s7 = .bool rd ∧ s8 = .int .i64 re ∧ ∃ y, y = wx ∧ Hid (In R y ∧ w.heap.size + 2 ≤ D6 ∧ ∃ a6 c6, y.heap[D6]? = some (.cells #[.slice a6 rl.length c6] 66 (0, 0)) ∧ Ef w.heap.size y (.slice a6 rl.length c6) rl))
  case first =>
   obtain ⟨Q, hQ, hQ1, hQu⟩ := Xk w1
   have hQb := hQ.below
   have hQn := hQ.next
   have HQu := zh hQu
   clear hQu
   have HQR := zh (fun x (hx : In Q x) => hRn _ _ hR2 (hQb _ hx))
   have hw1 := HSz.out _ hR2
   refine wp_region_held (S := In Q) (by kernel_rfl) ?_
   change wpAnyH _ _ _ _ _ _ _ _ (World.drew _)
   have hC0 := hQ.drew _ hQ1
   generalize hx0 : w1.drew = x0 at hC0 ⊢
   clear hx0
   refine tk 0 (.pointer (some ⟨K, 0, none⟩)) (fun w hSw => ?_) hC0 ?_
   ·have yy := j0 _ (HQR.out _ hSw); go_simp
   simp only [tkS]
   refine tk 1 (.pointer (some ⟨K, 0, none⟩)) (fun w hSw => ?_) hC0 ?_
   ·go_simp
   simp only [tkS]
   refine tk 2 (.pointer (some ⟨K, 0, none⟩)) (fun w hSw => ?_) hC0 ?_
   ·go_simp
   simp only [tkS]
   refine tk 3 (.agg #[.slice sa 3 sc]) (fun w hSw => ?_) hC0 ?_
   ·have yy := k0 _ (HQR.out _ hSw); go_simp
   simp only [tkS]
   refine tk 4 (.pointer (some ⟨w.heap.size + 1, 4, none⟩)) (fun w hSw => ?_) hC0 ?_
   ·go_simp
   simp only [tkS]
   refine tk 5 (.agg #[.slice oa a.push.objects.length oc, .slice ua a.push.updates.length uc, .bool a.push.force]) (fun w hSw => ?_) hC0 ?_
   ·have y4 := a4 _ (HQR.out _ hSw); have y5 := a5 _ (HQR.out _ hSw); have y6 := a6 _ (HQR.out _ hSw); go_simp
   simp only [tkS]
   refine tk 6 (.pointer (some ⟨w.heap.size + 1, 2, none⟩)) (fun w hSw => ?_) hC0 ?_
   ·go_simp
   simp only [tkS]
   refine tk 7 (.int .i64 a.up) (fun w hSw => ?_) hC0 ?_
   ·have y2 := a2 _ (HQR.out _ hSw); go_simp
   simp only [tkS]
   refine tk 8 (.pointer (some ⟨w.heap.size + 1, 3, none⟩)) (fun w hSw => ?_) hC0 ?_
   ·go_simp
   simp only [tkS]
   refine tk 9 (.int .i64 a.late) (fun w hSw => ?_) hC0 ?_
   ·have y3 := a3 _ (HQR.out _ hSw); go_simp
   simp only [tkS]
   refine al2 10 15 ?_ ?_
   ·skip
    refine Or.inl ?_
    go_wp2_with fail
    refine (HRw.out _ (HQR.out _ hC0)).mono ?_
    rintro e x20 ⟨v6, rfl, hv6, hb0⟩
    obtain ⟨a6, c6, rfl⟩ := hv6.shape
    have hC1 := hQn _ _ hC0 hb0
    have hsx := (HQR.out _ hC0)
    have hsy := (hRb _ hsx).size
    have Hv6 := zh (And.intro hv6 hsy)
    clear hv6 hb0 hsx hsy
    obtain ⟨B6, hB6⟩ : ∃ B6, B6 = x0.heap.size := ⟨_, rfl⟩
    rw [← hB6] at Hv6
    clear hB6
    generalize x20 = x1 at *
    go_simp
    refine tk 11 (.tuple #[.agg #[.slice a6 rl.length c6], .bool rd, .int .i64 re]) (fun w hSw => ?_) hC1 ?_
    ·go_simp
    simp only [tkS]
    refine tk 12 (.agg #[.slice a6 rl.length c6]) (fun w hSw => ?_) hC1 ?_
    ·go_simp
    simp only [tkS]
    refine tk 13 (.bool rd) (fun w hSw => ?_) hC1 ?_
    ·go_simp
    simp only [tkS]
    refine tk 14 (.int .i64 re) (fun w hSw => ?_) hC1 ?_
    ·go_simp
    simp only [tkS]
    refine al1 15 ?_
    refine Or.inl ?_
    have hC2 := hQ.alloc _ (.cells #[.slice none 0 0] 66) hC1
    go_simp
    have hbA : Below x1.heap.size x1 (x1.alloc (.cells #[.slice none 0 0] 66)) := bal
    have HDb := zh (heap_alloc_new x1 (.cells #[.slice none 0 0] 66))
    have HDge := zh (show w1.heap.size ≤ x1.heap.size from (hQb _ hC1).size)
    have Hlt := zh (show ∀ T : Nat → Prop, (∀ b, T b → b = x1.heap.size) → ∀ z, Aq T (x1.alloc (.cells #[.slice none 0 0] 66)) z → Ef w.heap.size z (.slice a6 rl.length c6) rl from fun T hT z hu => by
     obtain ⟨F, hO, hF⟩ := Hv6.out.1
     exact (show Ef B6 z (.slice a6 rl.length c6) rl from ⟨F, (hO.below hbA).upd hu (fun b hb e => by have := hT b e; have := hO.lt hb; omega) (fun g hg e => by have := hT g e; have := (hO.block hg).2; omega), hF⟩).mono Hv6.out.2)
    clear hbA
    generalize x1.heap.size = D at *
    generalize x1.alloc (.cells #[.slice none 0 0] 66) = x2 at *
    refine al1 16 ?_
    refine Or.inl ?_
    have gz := Aa (j := 0) HDb.out rfl
    have fz := Ab (j := 0) HDb.out
    have Hu7 := zh (show Aq (fun b => b = D) x2 (x2.setCell ⟨D, 0, none⟩ (.slice a6 rl.length c6)) from (Aq.refl (fun b => b = D) _).setCell (p := ⟨D, 0, none⟩) (fun _ => rfl) _)
    have Hb7 := zh (Ad (j := 0) HDb.out (.slice a6 rl.length c6))
    have hC3 := HQu.out _ _ _ hC2 Hu7.out (fun b hb => by have := HDge.out; have e2 : b = D := hb; omega)
    have Hv7 := zh (Hlt.out _ (fun b hb => hb) _ Hu7.out)
    go_wp2_with fail
    first | refine ⟨hC3, ?_⟩ | skip
    change wpAnyH _ _ _ _ _ _ _ _ (x2.setCell ⟨D, 0, none⟩ (.slice a6 rl.length c6))
    clear gz fz Hu7
    generalize x2.setCell ⟨D, 0, none⟩ (.slice a6 rl.length c6) = x3 at *
    refine tk 17 (.bool rd) (fun w hSw => ?_) hC3 ?_
    ·go_simp
    simp only [tkS]
    refine al1 18 ?_
    refine Or.inl ?_
    go_wp2_with fail
    first | refine ⟨hC3, by kernel_rfl, ?_⟩ | refine ⟨by kernel_rfl, ?_⟩
    have HEnd := zh (show In R x3 ∧ w.heap.size + 2 ≤ D ∧ ∃ a6 c6, x3.heap[D]? = some (.cells #[.slice a6 rl.length c6] 66 (0, 0)) ∧ Ef w.heap.size x3 (.slice a6 rl.length c6) rl from ⟨HQR.out _ hC3, by have := HDge.out; omega, a6, c6, Hb7.out, Hv7.out⟩)
    go_wp2_with fail
    go_meet
    exact ⟨D, rfl, rfl, rfl, x3, rfl, HEnd⟩
   refine Or.inl ?_
   have hC1 := hQ.alloc _ (.cells #[.slice none 0 0] 66) hC0
   go_simp
   have hbA : Below x0.heap.size x0 (x0.alloc (.cells #[.slice none 0 0] 66)) := bal
   have HDb := zh (heap_alloc_new x0 (.cells #[.slice none 0 0] 66))
   have HDge := zh (show w1.heap.size ≤ x0.heap.size from (hQb _ hC0).size)
   clear hbA
   generalize x0.heap.size = D at *
   generalize x0.alloc (.cells #[.slice none 0 0] 66) = x1 at *
   refine al1 10 ?_
   refine Or.inl ?_
   go_wp2_with fail
   refine (HRw.out _ (HQR.out _ hC1)).mono ?_
   rintro e x21 ⟨v6, rfl, hv6, hb0⟩
   obtain ⟨a6, c6, rfl⟩ := hv6.shape
   have hC2 := hQn _ _ hC1 hb0
   have hsx := (HQR.out _ hC1)
   have hsy := (hRb _ hsx).size
   have HDx := zh (show D < x1.heap.size from lt_of_block HDb.out)
   replace HDb := zh (Al HDb.out hb0)
   have Hv6 := zh (And.intro hv6 hsy)
   clear hv6 hb0 hsx hsy
   obtain ⟨B6, hB6⟩ : ∃ B6, B6 = x1.heap.size := ⟨_, rfl⟩
   rw [← hB6] at Hv6 HDx
   clear hB6
   generalize x21 = x2 at *
   go_simp
   refine tk 11 (.tuple #[.agg #[.slice a6 rl.length c6], .bool rd, .int .i64 re]) (fun w hSw => ?_) hC2 ?_
   ·go_simp
   simp only [tkS]
   refine tk 12 (.agg #[.slice a6 rl.length c6]) (fun w hSw => ?_) hC2 ?_
   ·go_simp
   simp only [tkS]
   refine tk 13 (.bool rd) (fun w hSw => ?_) hC2 ?_
   ·go_simp
   simp only [tkS]
   refine tk 14 (.int .i64 re) (fun w hSw => ?_) hC2 ?_
   ·go_simp
   simp only [tkS]
   refine al1 16 ?_
   refine Or.inl ?_
   have gz := Aa (j := 0) HDb.out rfl
   have fz := Ab (j := 0) HDb.out
   have Hu7 := zh (show Aq (fun b => b = D) x2 (x2.setCell ⟨D, 0, none⟩ (.slice a6 rl.length c6)) from (Aq.refl (fun b => b = D) _).setCell (p := ⟨D, 0, none⟩) (fun _ => rfl) _)
   have Hb7 := zh (Ad (j := 0) HDb.out (.slice a6 rl.length c6))
   have hC3 := HQu.out _ _ _ hC2 Hu7.out (fun b hb => by have := HDge.out; have e2 : b = D := hb; omega)
   have Hv7 := zh ((Hv6.out.1.upd Hu7.out (fun b hb _ e => by have := HDx.out; have e2 : b = D := e; omega)).mono Hv6.out.2)
   go_wp2_with fail
   first | refine ⟨hC3, ?_⟩ | skip
   change wpAnyH _ _ _ _ _ _ _ _ (x2.setCell ⟨D, 0, none⟩ (.slice a6 rl.length c6))
   clear gz fz Hu7
   generalize x2.setCell ⟨D, 0, none⟩ (.slice a6 rl.length c6) = x3 at *
   refine tk 17 (.bool rd) (fun w hSw => ?_) hC3 ?_
   ·go_simp
   simp only [tkS]
   refine al1 18 ?_
   refine Or.inl ?_
   go_wp2_with fail
   first | refine ⟨hC3, by kernel_rfl, ?_⟩ | refine ⟨by kernel_rfl, ?_⟩
   have HEnd := zh (show In R x3 ∧ w.heap.size + 2 ≤ D ∧ ∃ a6 c6, x3.heap[D]? = some (.cells #[.slice a6 rl.length c6] 66 (0, 0)) ∧ Ef w.heap.size x3 (.slice a6 rl.length c6) rl from ⟨HQR.out _ hC3, by have := HDge.out; omega, a6, c6, Hb7.out, Hv7.out⟩)
   go_wp2_with fail
   go_meet
   exact ⟨D, rfl, rfl, rfl, x3, rfl, HEnd⟩
  obtain ⟨D6, rfl, rfl, rfl, y6, rfl, HK6⟩ := hcut
  obtain ⟨hR6, hD6, a6, c6, hb6, ho6⟩ := HK6.out
  have HB6 := zh hb6
  have HO6 := zh ho6
  clear HK6 hb6 ho6
  by_cases hz : re = 0
  case neg =>
   have q : (re == 0) = false := by simpa using hz
   have HN := zh hz
   have HB2 := zh (hRb _ hR6)
   clear hz
   go_wp2_with fail
   go_ret
   exact ⟨Ae HE.out.symm, fun _ => HB2.out, fun h => absurd (HE.out.symm.trans h) HN.out⟩
  subst hz
  go_upto_region 8 with fail
  refine wp_region_held (S := In (fun x : World => x.cell? ⟨w.heap.size, 0, none⟩ = some (.pointer (some ⟨K, 0, none⟩)) ∧ x.cell? ⟨D6, 0, none⟩ = some (.slice a6 rl.length c6))) (by kernel_rfl) ?_
  change wpAnyH _ _ _ _ _ _ _ _ (World.drew _)
  have hR7 := hR.drew _ hR6
  have HB7 := zh (show y6.drew.heap[D6]? = _ from HB6.out)
  have HO7 := zh (HO6.out.below (Below.refl _ _).drew)
  generalize hx0 : y6.drew = x0 at hR7 HB7 HO7 ⊢
  clear hx0 HB6 HO6
  have hC0 : In (fun x : World => x.cell? ⟨w.heap.size, 0, none⟩ = some (.pointer (some ⟨K, 0, none⟩)) ∧ x.cell? ⟨D6, 0, none⟩ = some (.slice a6 rl.length c6)) x0 := show (fun x : World => x.cell? ⟨w.heap.size, 0, none⟩ = some (.pointer (some ⟨K, 0, none⟩)) ∧ x.cell? ⟨D6, 0, none⟩ = some (.slice a6 rl.length c6)) x0 from ⟨j0 _ hR7, Aa (j := 0) HB7.out rfl⟩
  have HKy := zh (HKx.out _ hR7)
  refine tk 0 (.pointer (some ⟨K, 0, none⟩)) (fun w hSw => ?_) hC0 ?_
  ·have yq : _ ∧ _ := hSw; have yy := yq.1; go_simp
  simp only [tkS]
  refine tk 1 (.pointer (some ⟨K, 0, none⟩)) (fun w hSw => ?_) hC0 ?_
  ·have yq : _ ∧ _ := hSw; have yy := yq.1; go_simp
  simp only [tkS]
  refine tk 2 (.agg #[.slice a6 rl.length c6]) (fun w hSw => ?_) hC0 ?_
  ·have yq : _ ∧ _ := hSw; have yy := yq.2; go_simp
  simp only [tkS]
  refine tk 3 (.bool rd) (fun w hSw => ?_) hC0 ?_
  ·go_simp
  simp only [tkS]
  refine tk 4 (.pointer (some ⟨K, 0, none⟩)) (fun w hSw => ?_) hC0 ?_
  ·go_simp
  simp only [tkS]
  refine tk 5 (.pointer (some ⟨K, 0, none⟩)) (fun w hSw => ?_) hC0 ?_
  ·go_simp
  simp only [tkS]
  refine al1 6 ?_
  refine Or.inl ?_
  have m0 := Aa (j := 0) HKy.out rfl
  have n0 := Ab (j := 0) HKy.out
  have Hu7 := zh (show Aq (fun b => b = K) x0 (x0.setCell ⟨K, 0, none⟩ (.slice a6 rl.length c6)) from (Aq.refl (fun b => b = K) _).setCell (p := ⟨K, 0, none⟩) (fun _ => rfl) _)
  have Hs0 := zh (Ad (j := 0) HKy.out (.slice a6 rl.length c6))
  have hq := (show _ ∧ _ from hC0)
  have hC1 : In (fun x : World => x.cell? ⟨w.heap.size, 0, none⟩ = some (.pointer (some ⟨K, 0, none⟩)) ∧ x.cell? ⟨D6, 0, none⟩ = some (.slice a6 rl.length c6)) (x0.setCell ⟨K, 0, none⟩ (.slice a6 rl.length c6)) := show (fun x : World => x.cell? ⟨w.heap.size, 0, none⟩ = some (.pointer (some ⟨K, 0, none⟩)) ∧ x.cell? ⟨D6, 0, none⟩ = some (.slice a6 rl.length c6)) (x0.setCell ⟨K, 0, none⟩ (.slice a6 rl.length c6)) from ⟨Hu7.out.cell hq.1 (fun e => by have e2 : w.heap.size = K := e; omega), Hu7.out.cell hq.2 (fun e => by have e2 : D6 = K := e; omega)⟩
  clear hq
  go_wp2_with fail
  first | refine ⟨hC1, ?_⟩ | skip
  change wpAnyH _ _ _ _ _ _ _ _ (x0.setCell ⟨K, 0, none⟩ (.slice a6 rl.length c6))
  clear m0 n0
  generalize x0.setCell ⟨K, 0, none⟩ (.slice a6 rl.length c6) = x1 at *
  refine tk 7 (.pointer (some ⟨K, 0, none⟩)) (fun w hSw => ?_) hC1 ?_
  ·go_simp
  simp only [tkS]
  refine tk 8 (.pointer (some ⟨K, 1, none⟩)) (fun w hSw => ?_) hC1 ?_
  ·go_simp
  simp only [tkS]
  refine al1 9 ?_
  refine Or.inl ?_
  have m0 := Aa (j := 1) Hs0.out rfl
  have n0 := Ab (j := 1) Hs0.out
  have Hu8 := zh (show Aq (fun b => b = K) x1 (x1.setCell ⟨K, 1, none⟩ (.bool rd)) from (Aq.refl (fun b => b = K) _).setCell (p := ⟨K, 1, none⟩) (fun _ => rfl) _)
  have Hs1 := Ad (j := 1) Hs0.out (.bool rd)
  simp only [List.setIfInBounds_toArray, List.set_cons_zero, List.set_cons_succ] at Hs1
  have hq := (show _ ∧ _ from hC1)
  have hC2 : In (fun x : World => x.cell? ⟨w.heap.size, 0, none⟩ = some (.pointer (some ⟨K, 0, none⟩)) ∧ x.cell? ⟨D6, 0, none⟩ = some (.slice a6 rl.length c6)) (x1.setCell ⟨K, 1, none⟩ (.bool rd)) := show (fun x : World => x.cell? ⟨w.heap.size, 0, none⟩ = some (.pointer (some ⟨K, 0, none⟩)) ∧ x.cell? ⟨D6, 0, none⟩ = some (.slice a6 rl.length c6)) (x1.setCell ⟨K, 1, none⟩ (.bool rd)) from ⟨Hu8.out.cell hq.1 (fun e => by have e2 : w.heap.size = K := e; omega), Hu8.out.cell hq.2 (fun e => by have e2 : D6 = K := e; omega)⟩
  clear hq
  have HB9 := hRb _ hR7
  have HEnd := zh (show Aq (fun b => b = K) w (x1.setCell ⟨K, 1, none⟩ (.bool rd)) ∧ ∃ v', (x1.setCell ⟨K, 1, none⟩ (.bool rd)).heap[K]? = some (.cells #[v', .bool rd] 145 (0, 0)) ∧ Ef w.heap.size (x1.setCell ⟨K, 1, none⟩ (.bool rd)) v' rl from
   ⟨(((Dh HB9).weaken fun b hb h => by have h2 : w.heap.size ≤ b := h; omega).trans Hu7.out (fun _ _ h => h)).trans Hu8.out (fun _ _ h => h), _, Hs1, ((HO7.out.upd Hu7.out (fun b hb _ e => by have e2 : b = K := e; omega)).upd Hu8.out (fun b hb _ e => by have e2 : b = K := e; omega))⟩)
  clear Hs1 HB9
  go_wp2_with fail
  first | refine ⟨by kernel_rfl, ?_⟩ | refine ⟨hC2, by kernel_rfl, ?_⟩
  first | change Exit.then _ _ _ _ (x1.setCell ⟨K, 1, none⟩ (.bool rd)) | change Exit.inBlock _ _ _ _ (x1.setCell ⟨K, 1, none⟩ (.bool rd))
  clear m0 n0 hC2
  generalize x1.setCell ⟨K, 1, none⟩ (.bool rd) = x2 at *
  go_wp2_with fail
  go_ret
  exact ⟨Ae HE.out.symm, fun h => absurd HE.out h, fun _ => by rw [HL.out, HD.out]; exact HEnd.out⟩
 rw [if_neg g1] at HE HL HD
 have qk : (a.kind == 1) = false := by simpa using g1
 by_cases g2 : a.kind = 2
 case pos =>
  rw [if_pos g2] at HE HL
  have qk2 : (a.kind == 2) = true := by simpa using g2
  clear g1 g2
  have HBe := zh (fun x (hx : In R x) => Nf l _ _ x (H.out.below (hRb _ hx)))
  go_enter Tryz.func100, Tryz.ntmps100
  go_wp2_with fail
  refine (HFo.out _ hR1).mono ?_
  rintro e w1 ⟨rfl, hb1⟩
  have hR2 := hRn _ _ hR1 hb1
  clear hb1 jj b0 b1 b2 b3 b4 b5 b6
  have b0 := a0 _ hR2
  have jj := j0 _ hR2
  have kk := k0 _ hR2
  go_wp2_with fail
  refine (HBe.out _ hR2).mono ?_
  rintro e w2 ⟨rfl, hb2⟩
  have hR3 := hRn _ _ hR2 hb2
  clear hb2 b0 jj kk HBe
  have hbl : CR l < 3 := by have := Kr (l := l) (by have := HC.out.len; omega); have := HC.out.len; omega
  generalize hbe : CR l = bi at *
  clear hbe
  have hR4 := hR.alloc _ (.cells #[.int .i64 (bi : Int)] 3) hR3
  have HDb := zh (heap_alloc_new w2 (.cells #[.int .i64 (bi : Int)] 3))
  have b1 := a1 _ hR4
  have jj := j0 _ hR4
  have HBk := zh (hRb _ hR4)
  have HWi := zh (Jg K 164 i sa sc false #[.pointer (some ⟨w.heap.size, 0, none⟩), .pointer (some ⟨w2.heap.size, 0, none⟩)] l _ _ S (fun x => x.heap[K]? = some (.cells #[.slice sa 3 sc, .bool false] 145 (0, 0)) ∧ x.heap[w.heap.size]? = some (.cells #[.pointer (some ⟨K, 0, none⟩)] 143 (0, 0)) ∧ x.heap[w2.heap.size]? = some (.cells #[.int .i64 (bi : Int)] 3 (0, 0)) ∧ AE S x (.slice sa 3 sc) l) (w2.alloc (.cells #[.int .i64 (bi : Int)] 3)) (HKx.out _ hR4) (H.out.below (hRb _ hR4)) HC.out.len hi3
   ⟨HKx.out _ hR4, HJ.out _ hR4, HDb.out, H.out.below (hRb _ hR4)⟩ (fun x z h hb => ⟨Al h.1 hb, Al h.2.1 hb, Al h.2.2.1 hb, h.2.2.2.below hb⟩) (fun _ _ => rfl)
   (fun x sv rv ov uv S2 hx hr => Xt K w.heap.size w2.heap.size bi sa sc false l (Ai l i) sv rv ov uv S S2 x hx.1 hx.2.1 hx.2.2.1 hx.2.2.2 HC.out.len hbl hr ((BR (Ez (Bf.2 (HC.out.each bi hbl)))).1) (Ez (Bf.2 (HC.out.each i hi3)))))
  rw [← Hi.out] at HWi
  go_wp2_with fail
  refine HWi.out.mono ?_
  rintro e x9 ⟨rfl, h1, h2⟩
  have HW := zh (And.intro h1 h2)
  clear h1 h2
  go_wp2_with fail
  go_ret
  refine ⟨Ae HE.out.symm, fun h => ?_, fun h => ?_⟩
  ·exact HBk.out.trans ((HW.out.1 (by rw [← HE.out]; exact h)).mono HBk.out.size)
  ·obtain ⟨hu, v9, hk9, ho9⟩ := HW.out.2 (by rw [← HE.out]; exact h)
   rw [HL.out, HD.out]
   exact ⟨((Dh HBk.out).weaken fun b hb h => by have h2 : w.heap.size ≤ b := h; omega).trans hu (fun _ _ h => h), v9, hk9, ho9.mono HBk.out.size⟩
 rw [if_neg g2] at HE HL
 have qk2 : (a.kind == 2) = false := by simpa using g2
 clear g1 g2
 go_enter Tryz.func100, Tryz.ntmps100
 go_wp2_with fail
 refine (HFo.out _ hR1).mono ?_
 rintro e w1 ⟨rfl, hb1⟩
 have hR2 := hRn _ _ hR1 hb1
 clear hb1 jj b0 b1 b2 b3 b4 b5 b6
 have b0 := a0 _ hR2
 have b1 := a1 _ hR2
 have jj := j0 _ hR2
 have HBk := zh (hRb _ hR2)
 have hrc := Bf.2 (HC.out.each i hi3)
 have HWi := zh (Jg K 23 i sa sc false #[] l (DD (Ai l i)) 0 S (fun _ => True) w1 (HKx.out _ hR2) (H.out.below (hRb _ hR2)) HC.out.len hi3 trivial (fun _ _ _ _ => trivial) (fun _ _ => rfl)
  (fun x sv rv ov uv S2 _ hr => by
   have hC := TC (Ai l i) sv rv ov uv S2 x hr
   rw [hrc, show MJ (Ai l i) = DD (Ai l i) by unfold MJ; rw [if_pos hrc]] at hC
   exact hC))
 rw [← Hi.out] at HWi
 go_wp2_with fail
 refine HWi.out.mono ?_
 rintro e x9 ⟨rfl, h1, h2⟩
 have HW := zh (And.intro h1 h2)
 clear h1 h2
 go_wp2_with fail
 go_ret
 refine ⟨Ae HE.out.symm, fun h => ?_, fun h => ?_⟩
 ·exact absurd HE.out h
 ·obtain ⟨hu, v9, hk9, ho9⟩ := HW.out.2 (by first | trivial | rfl)
  rw [HL.out, HD.out]
  exact ⟨((Dh HBk.out).weaken fun b hb h => by have h2 : w.heap.size ≤ b := h; omega).trans hu (fun _ _ h => h), v9, hk9, ho9.mono HBk.out.size⟩
theorem Xb {l a : List Obj} (hs : ∀ x ∈ l, x ∈ a) (ha : AB a) : Ep l a = 0 ∧ CH l a = [] := by
 have h0 : Ep l a = 0 := Oy.2 fun x hx _ => (ha.isAt_mem (hs x hx)).2
 refine ⟨h0, ?_⟩
 unfold CH
 rw [if_pos h0]
 unfold Iv
 rw [List.filter_eq_nil_iff]
 intro x hx
 unfold Nl
 rw [(ha.isAt_mem (hs x hx)).1]; simp
theorem WQ {l more : List Obj} (h : BZ l more = 0) : Af (Cg l more) = 0 ∧ ∀ x, x ∈ Cg l more ↔ x ∈ l ∨ x ∈ more := by
 have e : Cg l more = Ap l more more.length := by unfold Cg; rw [if_pos h]
 unfold BZ at h
 by_cases h2 : Ao (BO l more) more.length = 0
 ·rw [if_pos h2] at h
  rw [e]
  exact ⟨h, fun x => by rw [FH (Nat.le_refl _) h2 x, List.take_length]⟩
 ·rw [if_neg h2] at h; exact absurd h h2
structure KF (n r a : An) : Prop where
 newer : Am n = 0
 older : Am r = 0
 refs : a.refs = n.refs
 gen : a.gen = n.gen
 phase : a.phase = 0
 pend : a.pend = Db
 store : Af a.store = 0
 mem : ∀ x, x ∈ a.store ↔ x ∈ r.store ∨ x ∈ n.store
theorem XV {n r : An} (h : QC n r = 0) : KF n r (QH n r) := by
 have hR : QH n r = BF n r := by unfold QH; rw [if_pos h]
 unfold QC at h
 split at h
 ·rename_i h1; exact absurd h h1
 ·rename_i h1
  split at h
  ·rename_i h2; exact absurd h h2
  ·rename_i h2
   have hn : Am n = 0 := by simpa using h1
   have hr : Am r = 0 := by simpa using h2
   have hR2 : BF n r = ⟨Cg r.store (CH n.store r.store), n.refs, n.gen, 0, Db⟩ := by unfold BF; rw [if_pos h]
   unfold BX at h
   split at h
   ·cases h
   ·split at h
    ·rename_i h3; exact absurd h h3
    ·rename_i h3
     have h4 : Ep n.store r.store = 0 := by simpa using h3
     obtain ⟨hc, hm⟩ := WQ h
     rw [hR, hR2]
     refine ⟨hn, hr, rfl, rfl, rfl, rfl, hc, fun x => ?_⟩
     rw [hm]
     have hl : CH n.store r.store = Iv n.store r.store := by unfold CH; rw [if_pos h4]
     rw [hl]
     constructor
     ·rintro (hx | hx)
      ·exact .inl hx
      ·exact .inr (QQ.1 hx).1
     ·rintro (hx | hx)
      ·exact .inl hx
      ·cases hi : CJ r.store x.id
       ·exact .inr (QQ.2 ⟨hx, hi⟩)
       ·left
        have := Oy.1 h4 x hx hi
        rw [← this]
        exact FR (KR hi).1
theorem UX {l a : List Obj} (hs : ∀ x ∈ l, x ∈ a) (ha : AB a) {id : Int} {k : Int} (h : Az l id = k) (hk : k ≠ 0) : Az a id = k := by
 obtain ⟨j, hj, he, hkj⟩ := FB (by rw [h]; exact hk)
 obtain ⟨i, hi, e⟩ := Ia (hs _ (FR hj))
 have := ha.kind_self hi
 rw [e, he] at this
 rw [this, ← hkj, h]
theorem Wt {l : List Rf} {s a : List Obj} (hs : ∀ x ∈ s, x ∈ a) (ha : Af a = 0) (h : Au l s = 0) : Au l a = 0 := by
 have hs0 := (Bp.1 h).1
 have h1 : AD l s = 0 := by unfold Au at h; rw [if_neg (by simpa using hs0)] at h; exact h
 have e : ∀ i, i < l.length → BK l s i = 0 → BK l a i = 0 := fun i hi h0 => by
  rw [Is] at h0 ⊢
  exact ⟨h0.1, h0.2.1, UX hs (AR ha) h0.2.2 (by decide)⟩
 unfold Au
 rw [if_neg (by simpa using ha)]
 unfold AD at h1 ⊢
 split at h1
 ·cases h1
 ·rename_i h8
  rw [if_neg h8]
  split at h1
  ·rename_i h2; exact absurd h1 h2
  ·rename_i h2
   have h3 : Ao (BK l s) l.length = 0 := by simpa using h2
   have h4 : Ao (BK l a) l.length = 0 := AW fun i hi => e i hi (Be h3 i hi)
   rw [if_neg (by simpa using h4)]; exact h1
theorem PR {r : An} (h : Am r = 0) : Au r.refs r.store = 0 ∧ within r.gen 0 999 = true := by
 unfold Am at h
 split at h
 ·rename_i h1; exact absurd h h1
 ·rename_i h1
  refine ⟨by simpa using h1, ?_⟩
  split at h
  ·cases h
  ·rename_i h2; simpa using h2
theorem KF.right {n r a : An} (h : KF n r a) : Am a = 0 := by
 obtain ⟨h1, h2⟩ := PR h.newer
 unfold Am
 have hc : Au a.refs a.store = 0 := by rw [h.refs]; exact Wt (fun x hx => (h.mem x).2 (.inr hx)) h.store h1
 rw [if_neg (by simpa using hc), h.gen, h2, h.phase, h.pend]
 simp [within, BS, Db]
theorem KF.diff {n r a : An} (h : KF n r a) {s : List Obj} (hc : Af s = 0) (hs : ∀ x ∈ s, x ∈ a.store) : SP s a.store = 0 ∧ XC s a.store = [] := by
 obtain ⟨e1, e2⟩ := Xb hs (AR h.store)
 have h0 : SP s a.store = 0 := by unfold SP; rw [if_neg (by simpa using hc), if_neg (by simpa using h.store)]; exact e1
 refine ⟨h0, ?_⟩
 unfold XC; rw [if_pos h0]
 unfold CH at e2; rw [if_pos e1] at e2; exact e2
theorem NT {n r : An} (hn : Ct n) (hr : Ct r) (h : BX n r = 0) : KF n r (BF n r) := by
 have e1 : QC n r = 0 := by
  unfold QC
  rw [if_neg (by simpa using Bf.2 hn), if_neg (by simpa using Bf.2 hr)]; exact h
 have e2 : QH n r = BF n r := by unfold QH; rw [if_pos e1]
 rw [← e2]; exact XV e1
theorem JA {l : List An} (hl : l.length = 3) : CR l < 3 ∧ ∀ k, k < 3 → (Ai l k).gen ≤ (Ai l (CR l)).gen := by
 refine ⟨by have := Kr (l := l) (by omega); omega, fun k hk => (Ix l l.length).1 k (by omega)⟩
structure PZ (l : List An) (i : Nat) (r : An) : Prop where
 i3 : i < 3
 right : Ct r
 has : ∃ m, m < 3 ∧ r.gen = (Ai l m).gen ∧ r.refs = (Ai l m).refs ∧ (m = i ∨ m = CR l)
theorem PZ.at {l : List An} {i : Nat} {r : An} (h : PZ l i r) (hc : By l) {k : Nat} (hk : k < 3) : ∃ m, m < 3 ∧ (Ai (l.set i r) k).gen = (Ai l m).gen ∧ (Ai (l.set i r) k).refs = (Ai l m).refs ∧ (m = k ∨ m = CR l) := by
 rw [Ec (by have := hc.len; omega)]
 by_cases e : k = i
 ·subst e; rw [if_pos rfl]; exact h.has
 ·rw [if_neg e]; exact ⟨k, hk, rfl, rfl, .inl rfl⟩
theorem PZ.top {l : List An} {i : Nat} {r : An} (h : PZ l i r) (hc : By l) {k : Nat} (hk : k < 3) (hg : (Ai l k).gen = (Ai l (CR l)).gen) : (Ai (l.set i r) k).gen = (Ai l (CR l)).gen := by
 obtain ⟨m, _, e, _, h4⟩ := h.at hc hk
 rw [e]
 rcases h4 with rfl | rfl
 ·exact hg
 ·rfl
theorem PZ.most {l : List An} {i : Nat} {r : An} (h : PZ l i r) (hc : By l) {k : Nat} (hk : k < 3) : (Ai (l.set i r) k).gen ≤ (Ai l (CR l)).gen := by
 obtain ⟨m, hm, e, _, _⟩ := h.at hc hk
 rw [e]; exact (JA hc.len).2 m hm
theorem TP {l : List An} {i : Nat} {r : An} (hc : By l) (h : PZ l i r) : By (l.set i r) := by
 obtain ⟨hb, hm⟩ := JA hc.len
 refine ⟨by rw [List.length_set]; exact hc.len, fun k hk => ?_, fun a b ha hb2 e => ?_, ?_⟩
 ·rw [Ec (by have := hc.len; omega)]
  split
  ·exact h.right
  ·exact hc.each k hk
 ·obtain ⟨m, m3, e1, e2, _⟩ := h.at hc ha
  obtain ⟨n, n3, e3, e4, _⟩ := h.at hc hb2
  rw [e2, e4]
  exact hc.refs m n m3 n3 (by rw [← e1, ← e3]; exact e)
 ·obtain ⟨x, y, hxy, hy, exy, hmx⟩ := hc.top
  have gx : (Ai l x).gen = (Ai l (CR l)).gen := by have := hm x (by omega); have := hmx _ hb; omega
  have gy : (Ai l y).gen = (Ai l (CR l)).gen := by omega
  exact ⟨x, y, hxy, hy, by rw [h.top hc (by omega) gx, h.top hc hy gy], fun k hk => by rw [h.top hc (by omega) gx]; exact h.most hc hk⟩
theorem Po {l : List An} {a : Ac} (hc : By l) (he : DN l a = 0) (hk : a.kind ≠ 1) : ∃ i r, En l a = l.set i r ∧ PZ l i r := by
 have hf : Co a = 0 := by unfold DN at he; split at he; rename_i h; exact absurd he h; rename_i h; simpa using h
 obtain ⟨_, _, h3, h4⟩ := Ot hf
 have hi : a.on.toNat < 3 := by omega
 unfold DN at he
 rw [if_neg (by simpa using hf), if_neg hk] at he
 unfold En
 rw [if_neg hk]
 by_cases h2 : a.kind = 2
 ·rw [if_pos h2] at he ⊢
  have hb := (JA hc.len).1
  have hm := NT (hc.each _ hb) (hc.each _ hi) he
  exact ⟨_, _, rfl, hi, Bf.1 hm.right, CR l, hb, hm.gen, hm.refs, .inr rfl⟩
 ·rw [if_neg h2]
  exact ⟨_, _, rfl, hi, RY (hc.each _ hi), _, hi, rfl, rfl, .inl rfl⟩
theorem Ox {l : List An} {a : Ac} (hc : By l) (he : DN l a = 0) : By (En l a) := by
 by_cases hk : a.kind = 1
 ·have hp : BT l a.push a.up a.late = 0 := by
   unfold DN at he
   split at he
   ·rename_i h; exact absurd he h
   ·first | exact he | (rw [if_pos hk] at he; exact he)
  unfold En; rw [if_pos hk]; exact RI hc hp
 ·obtain ⟨i, r, e, h⟩ := Po hc he hk
  rw [e]; exact TP hc h
def Yy : Ac := ⟨0, 0, 0, 0, Db⟩
def ac (l : List Ac) (i : Nat) : Ac := at_ Yy l i
def DV (l : List An) (a : Ac) : List An := if DN l a = 0 then En l a else l
def Ff (l : List An) (a : Ac) : Bool := if DN l a = 0 then LI l a else false
def Pe : List An := [Ds, Ds, Ds]
def CV (s : List Ac) : Nat → List An
 | 0 => Pe
 | k + 1 => DV (CV s k) (ac s k)
def Ft (s : List Ac) : Nat → List Bool
 | 0 => []
 | k + 1 => Ft s k ++ [Ff (CV s k) (ac s k)]
def EH (s : List Ac) : Nat → List Int
 | 0 => []
 | k + 1 => EH s k ++ [DN (CV s k) (ac s k)]
theorem Lm (s : List Ac) : ∀ k, (Ft s k).length = k
 | 0 => rfl
 | k + 1 => by unfold Ft; rw [List.length_append, Lm s k]; rfl
theorem IS (s : List Ac) : ∀ k, (EH s k).length = k
 | 0 => rfl
 | k + 1 => by unfold EH; rw [List.length_append, IS s k]; rfl
theorem Tq : By Pe := KU.1 (by decide +kernel)
theorem Ns {l : List An} {a : Ac} (h : By l) : By (DV l a) := by
 unfold DV
 split
 ·exact Ox h (by assumption)
 ·exact h
theorem Dq (s : List Ac) : ∀ k, By (CV s k)
 | 0 => Tq
 | k + 1 => Ns (Dq s k)
theorem Ym {l : List Ac} {i : Nat} (h : i < l.length) : ac l i = l[i] := Li h
structure AV where
 o : Value
 u : Value
def Yf (a : Ac) (x : AV) : List Value := [.int .i64 a.kind, .int .i64 a.on, .int .i64 a.up, .int .i64 a.late, x.o, x.u, .bool a.push.force]
def FC (S : Nat → Prop) (w : World) (v : Value) (l : List Ac) : Prop :=
 ∃ vs : Nat → AV, Sl S w v 7 88 l.length (fun i => Yf (ac l i) (vs i)) ∧ ∀ i, i < l.length → EE S w (ac l i) (vs i).o (vs i).u
theorem FC.below {S : Nat → Prop} {w w' : World} {v : Value} {l : List Ac} (h : FC S w v l) (hb : Below w.heap.size w w') : FC S w' v l :=
 let ⟨vs, h1, h2⟩ := h; ⟨vs, h1.below hb, fun i hi => (h2 i hi).below hb⟩
theorem FC.weaken {S S' : Nat → Prop} {w : World} {v : Value} {l : List Ac} (h : FC S w v l) (hs : ∀ b, S b → S' b) : FC S' w v l :=
 let ⟨vs, h1, h2⟩ := h; ⟨vs, h1.weaken hs, fun i hi => (h2 i hi).weaken hs⟩
theorem FC.vshape {S : Nat → Prop} {w : World} {v : Value} {l : List Ac} (h : FC S w v l) : ∃ a c, v = .slice a l.length c :=
 let ⟨_, ⟨a, cap, hv, _⟩, _⟩ := h; ⟨a, cap, hv⟩
structure AA where
 oa : Option Addr
 oc : Nat
 ua : Option Addr
 uc : Nat
def AA.av (x : AA) (r : Ac) : AV := ⟨.slice x.oa r.push.objects.length x.oc, .slice x.ua r.push.updates.length x.uc⟩
theorem EE.aa {S : Nat → Prop} {w : World} {r : Ac} {x : AV} (h : EE S w r x.o x.u) : ∃ y : AA, x = y.av r := by
 obtain ⟨oa, oc, e3⟩ := Ag.vshape h.objs
 obtain ⟨⟨ua, uc⟩, e4⟩ := AM.shape h.upds
 exact ⟨⟨oa, oc, ua, uc⟩, by cases x; simp_all [AA.av]⟩
theorem FC.open {S : Nat → Prop} {w : World} {v : Value} {l : List Ac} (h : FC S w v l) :
  ∃ a n cap, ∃ f : Nat → AA, Hid (n = l.length) ∧ v = .slice a n cap ∧ n ≤ cap ∧ cap ≤ 9223372036854775807 ∧ n * 88 ≤ 140737488351232 ∧
   (0 < n → ∃ b off, a = some ⟨b, off, none⟩ ∧ S b ∧
    (∀ i x, i < n → Below w.heap.size w x → x.cell? ⟨b, off + i * 7, none⟩ = some (.int .i64 (ac l i).kind)) ∧
    (∀ i x, i < n → Below w.heap.size w x → x.cell? ⟨b, off + i * 7 + 1, none⟩ = some (.int .i64 (ac l i).on)) ∧
    (∀ i x, i < n → Below w.heap.size w x → x.cell? ⟨b, off + i * 7 + 2, none⟩ = some (.int .i64 (ac l i).up)) ∧
    (∀ i x, i < n → Below w.heap.size w x → x.cell? ⟨b, off + i * 7 + 3, none⟩ = some (.int .i64 (ac l i).late)) ∧
    (∀ i x, i < n → Below w.heap.size w x → x.cell? ⟨b, off + i * 7 + 4, none⟩ = some (.slice (f i).oa (ac l i).push.objects.length (f i).oc)) ∧
    (∀ i x, i < n → Below w.heap.size w x → x.cell? ⟨b, off + i * 7 + 5, none⟩ = some (.slice (f i).ua (ac l i).push.updates.length (f i).uc)) ∧
    (∀ i x, i < n → Below w.heap.size w x → x.cell? ⟨b, off + i * 7 + 6, none⟩ = some (.bool (ac l i).push.force))) ∧
   (∀ i, i < n → EE S w (ac l i) (.slice (f i).oa (ac l i).push.objects.length (f i).oc) (.slice (f i).ua (ac l i).push.updates.length (f i).uc)) := by
 obtain ⟨vs, h1, h2⟩ := h
 have hp : ∃ f : Nat → AA, ∀ i, i < l.length → vs i = (f i).av (ac l i) := by
  refine ⟨fun i => if hi : i < l.length then Classical.choose (h2 i hi).aa else ⟨none, 0, none, 0⟩, fun i hi => ?_⟩
  simp only [hi, dif_pos]
  exact Classical.choose_spec (h2 i hi).aa
 obtain ⟨f, hf⟩ := hp
 obtain ⟨a, cap, hv, h3, h4, h5, h6⟩ := h1
 refine ⟨a, l.length, cap, f, rfl, hv, h3, h4, h5, fun hn => ?_, fun i hi => ?_⟩
 ·obtain ⟨b, off, ha, hS, hc⟩ := h6 hn
  have hc' : ∀ i x, i < l.length → Below w.heap.size w x → ∀ j u, (Yf (ac l i) ((f i).av (ac l i)))[j]? = some u → x.cell? ⟨b, off + i * 7 + j, none⟩ = some u :=
   fun i x hi hb j u hu => Ah hb (hc i hi j u (by show (Yf (ac l i) (vs i))[j]? = some u; rw [hf i hi]; exact hu))
  exact ⟨b, off, ha, hS, fun i x hi hb => hc' i x hi hb 0 _ rfl, fun i x hi hb => hc' i x hi hb 1 _ rfl, fun i x hi hb => hc' i x hi hb 2 _ rfl, fun i x hi hb => hc' i x hi hb 3 _ rfl, fun i x hi hb => hc' i x hi hb 4 _ rfl, fun i x hi hb => hc' i x hi hb 5 _ rfl, fun i x hi hb => hc' i x hi hb 6 _ rfl⟩
 ·have := h2 i hi
  rw [hf i hi] at this; exact this
theorem Tryz.infoErr : (Tryz.prog.info? 33).map (fun i => (i.zero, i.size, i.bytes)) = some (some (.int .i64 0), 1, 8) := by kernel_rfl
theorem Ed {ops : Array Oper} {rest : List Oper} {o : Oper} {a : Act} {w : World} {Q : Exit → Act → World → Prop} (hgd : o.guard = none) (s x : Operand)
  (ho : o.op = .call { callee := .builtin .append, args := #[s, x], argTypes := #[77, 77] }) {B n : Nat} {v : Value} {xs : List Value} {z : Bool}
  (hG : w.ownsRow B 4 1 v n xs) (hl : (n + 1) * 8 ≤ 140737488351232) (hB : B ≤ w.heap.size)
  (hs : a.eval s = v) {N : Nat} (hx : a.eval x = .slice (some ⟨N, 0, none⟩) 1 1) (hN : N = w.heap.size)
  (h : ∀ v' w', w'.ownsRow B 4 1 v' (n + 1) (xs ++ [.bool z]) → Aq (fun b => v.ownBlock = some b) w w' → (v'.ownBlock = v.ownBlock ∨ v'.ownBlock = some (w.heap.size + 1)) → wpList Tryz.prog ops Q rest (a.put o.dst v') w') :
  wpList Tryz.prog ops Q (o :: rest) a (w.alloc (.cells #[.bool z] 4)) := by
 subst hN
 obtain ⟨i0, hi, hz0, hz1, hz2⟩ := info_parts Tryz.infoBool
 refine wpList_append_own_at _ hgd s x 77 ho B 4 i0 _ 1 1 Tryz.underlying77 hi hz0 hz1 hz2 rfl (by decide) v n _ hs (hG.alloc _) ⟨w.heap.size, 0, none⟩ 1 1 [.bool z] hx rfl
  (World.news_of_block (cs := #[.bool z]) (t := 4) (fr := (0, 0)) (heap_alloc_new w _)) ?_ ?_ (by omega) (by simp; omega) ?_
 ·intro u hu
  simp only [List.mem_cons, List.not_mem_nil, or_false] at hu
  subst hu; rfl
 ·unfold maxLen; omega
 ·intro v' w' hown' hgrow _ hat
  exact h v' w' hown' (Aq.grown ((Aq.refl _ _).alloc _) hgrow (fun k hk _ => hk)) (by simpa using hat)
theorem EA {ops : Array Oper} {rest : List Oper} {o : Oper} {a : Act} {w : World} {Q : Exit → Act → World → Prop} (hgd : o.guard = none) (s x : Operand)
  (ho : o.op = .call { callee := .builtin .append, args := #[s, x], argTypes := #[78, 78] }) {B n : Nat} {v : Value} {xs : List Value} {z : Int}
  (hG : w.ownsRow B 33 1 v n xs) (hl : (n + 1) * 8 ≤ 140737488351232) (hB : B ≤ w.heap.size)
  (hs : a.eval s = v) {N : Nat} (hx : a.eval x = .slice (some ⟨N, 0, none⟩) 1 1) (hN : N = w.heap.size)
  (h : ∀ v' w', w'.ownsRow B 33 1 v' (n + 1) (xs ++ [.int .i64 z]) → Aq (fun b => v.ownBlock = some b) w w' → (v'.ownBlock = v.ownBlock ∨ v'.ownBlock = some (w.heap.size + 1)) → wpList Tryz.prog ops Q rest (a.put o.dst v') w') :
  wpList Tryz.prog ops Q (o :: rest) a (w.alloc (.cells #[.int .i64 z] 33)) := by
 subst hN
 obtain ⟨i0, hi, hz0, hz1, hz2⟩ := info_parts Tryz.infoErr
 refine wpList_append_own_at _ hgd s x 78 ho B 33 i0 _ 1 8 Tryz.underlying78 hi hz0 hz1 hz2 rfl (by decide) v n _ hs (hG.alloc _) ⟨w.heap.size, 0, none⟩ 1 1 [.int .i64 z] hx rfl
  (World.news_of_block (cs := #[.int .i64 z]) (t := 33) (fr := (0, 0)) (heap_alloc_new w _)) ?_ ?_ (by omega) (by simp; omega) ?_
 ·intro u hu
  simp only [List.mem_cons, List.not_mem_nil, or_false] at hu
  subst hu; rfl
 ·unfold maxLen; omega
 ·intro v' w' hown' hgrow _ hat
  exact h v' w' hown' (Aq.grown ((Aq.refl _ _).alloc _) hgrow (fun k hk _ => hk)) (by simpa using hat)
def Xv (l : List An) (a : Ac) : Int := if Dy l ≠ 0 then Dy l else DN l a
def XN (l : List An) (a : Ac) : List An := if Xv l a = 0 then En l a else []
def Ye (l : List An) (a : Ac) : Bool := if Xv l a = 0 then LI l a else false
theorem Rr (l : List An) (a : Ac) (cv ov uv : Value) (S S1 : Nat → Prop) (w : World) (h : AE S w cv l) (ha : EE S1 w a ov uv) (ht : QY w) :
  Calls Tryz.prog 37 #[.agg #[cv], KJ a ov uv] w fun e w' => ∃ v', e = .returned (.tuple #[.agg #[v'], .bool (Ye l a), .int .i64 (Xv l a)]) ∧ Ef w.heap.size w' v' (XN l a) ∧ Below w.heap.size w w' := by
 obtain ⟨oa, oc, rfl⟩ := ha.objs.vshape
 obtain ⟨⟨ua, uc⟩, rfl⟩ := ha.upds.shape
 obtain ⟨sa, sc, rfl⟩ := h.vshape
 have HA := zh ha
 have H := zh h
 have HTw := zh ht
 have HE := zh (show Xv l a = if Dy l ≠ 0 then Dy l else DN l a from rfl)
 have HL := zh (show XN l a = if Xv l a = 0 then En l a else [] from rfl)
 have HD := zh (show Ye l a = if Xv l a = 0 then LI l a else false from rfl)
 obtain ⟨R, hR, hR1, HB0⟩ := AL w [.cells #[.slice sa l.length sc] 66, .cells #[.int .i64 a.kind, .int .i64 a.on, .int .i64 a.up, .int .i64 a.late, .slice oa a.push.objects.length oc, .slice ua a.push.updates.length uc, .bool a.push.force] 68, .cells #[.slice none 0 0] 66]
 simp only [List.foldl] at hR1
 have hRb := hR.below
 have hRn := hR.next
 have c0 := fun x (hx : In R x) => Aa (j := 0) (HB0 x hx 0 _ rfl) rfl
 have a0 := fun x (hx : In R x) => Aa (j := 0) (HB0 x hx 1 _ rfl) rfl
 have a1 := fun x (hx : In R x) => Aa (j := 1) (HB0 x hx 1 _ rfl) rfl
 have a2 := fun x (hx : In R x) => Aa (j := 2) (HB0 x hx 1 _ rfl) rfl
 have a3 := fun x (hx : In R x) => Aa (j := 3) (HB0 x hx 1 _ rfl) rfl
 have a4 := fun x (hx : In R x) => Aa (j := 4) (HB0 x hx 1 _ rfl) rfl
 have a5 := fun x (hx : In R x) => Aa (j := 5) (HB0 x hx 1 _ rfl) rfl
 have a6 := fun x (hx : In R x) => Aa (j := 6) (HB0 x hx 1 _ rfl) rfl
 simp only [Nat.add_zero] at c0
 have HZ := zh (fun x (hx : In R x) => show x.heap[w.heap.size + 2]? = some (.cells #[.slice none 0 0] 66 (0, 0)) from HB0 x hx 2 _ rfl)
 have HSz := zh (fun x (hx : In R x) => show w.heap.size + 3 ≤ x.heap.size from lt_of_block (HB0 x hx 2 _ rfl))
 clear HB0
 have HCk := zh (fun x (hx : In R x) => Kk l _ _ x (H.out.below (hRb _ hx)))
 have cc := c0 _ hR1
 clear h ha ht
 simp only [KJ]
 by_cases hz : Dy l = 0
 case neg =>
  have HE2 := zh (show Xv l a = Dy l by rw [HE.out, if_pos hz])
  have HL2 := zh (show XN l a = [] by rw [HL.out, HE2.out, if_neg hz])
  have HD2 := zh (show Ye l a = false by rw [HD.out, HE2.out, if_neg hz])
  have q1 : (Dy l == 0) = false := by simpa using hz
  have q2 : (Dy l != 0) = true := by simpa using hz
  clear hz HE HL HD
  generalize Dy l = ce at *
  go_enter Tryz.func37, Tryz.ntmps37
  go_wp2_with fail
  refine (HCk.out _ hR1).mono ?_
  rintro e w1 ⟨rfl, hb1⟩
  have hR2 := hRn _ _ hR1 hb1
  clear cc hb1
  have cc := c0 _ hR2
  have hR3 := hR.alloc _ (.cells #[.slice sa l.length sc, .bool false] 145) hR2
  have HZW := zh (HZ.out _ hR3)
  have HBW := zh (hRb _ hR3)
  have gz := Aa (j := 0) HZW.out rfl
  have fz := Ab (j := 0) HZW.out
  go_wp2_with fail
  have hu5 : Aq (fun b => b = w.heap.size + 2) (w1.alloc (.cells #[.slice sa l.length sc, .bool false] 145)) ((w1.alloc (.cells #[.slice sa l.length sc, .bool false] 145)).setCell ⟨w.heap.size + 2, 0, none⟩ (.slice none 0 0)) := (Aq.refl (fun b => b = w.heap.size + 2) (w1.alloc (.cells #[.slice sa l.length sc, .bool false] 145))).setCell (p := ⟨w.heap.size + 2, 0, none⟩) (fun _ => rfl) _
  have hk5 : ((w1.alloc (.cells #[.slice sa l.length sc, .bool false] 145)).setCell ⟨w.heap.size + 2, 0, none⟩ (.slice none 0 0)).heap[w.heap.size + 2]? = some (.cells #[.slice none 0 0] 66 (0, 0)) := Ad (j := 0) HZW.out (.slice none 0 0)
  have hB5 := HBW.out.trans (hu5.below (B := w.heap.size) HBW.out.size (fun b hb => by have e2 : b = w.heap.size + 2 := hb; omega))
  generalize (w1.alloc (.cells #[.slice sa l.length sc, .bool false] 145)).setCell ⟨w.heap.size + 2, 0, none⟩ (.slice none 0 0) = x5 at *
  have k0 := Aa (j := 0) hk5 rfl
  refine bodyPost_ret (v := .tuple #[.agg #[.slice none 0 0], .bool false, .int .i64 ce]) (by simp [results, Tryz.results37, go_sem]; simp [k0] <;> rfl) rfl ?_
  refine ⟨_, by rw [HD2.out, HE2.out] <;> rfl, by rw [HL2.out]; exact ⟨fun _ => False, BA.nil _ _ _ (fun _ h => h.elim), fun _ h => h.elim⟩, hB5⟩
 have Hc := zh (KU.1 hz)
 have hl3 := Hc.out.len
 rw [if_neg (by simpa using hz)] at HE
 rw [hz] at HCk
 have H3 := H.out
 rw [hl3] at H3
 have H3 := zh H3
 have Hl3 := zh hl3
 clear hz hl3
 obtain ⟨E, hE⟩ : ∃ E, E = DN l a := ⟨_, rfl⟩
 rw [← hE] at HE
 have HEe := zh hE
 clear hE
 go_enter Tryz.func37, Tryz.ntmps37
 go_wp2_with fail
 refine (HCk.out _ hR1).mono ?_
 rintro e w1 ⟨rfl, hb1⟩
 have hR2 := hRn _ _ hR1 hb1
 clear cc hb1
 have cc := c0 _ hR2
 have HKn := zh (heap_alloc_new w1 (.cells #[.slice sa l.length sc, .bool false] 145))
 have hR3 := hR.alloc _ (.cells #[.slice sa l.length sc, .bool false] 145) hR2
 have hK1 := HSz.out _ hR2
 rw [Hl3.out] at HKn
 have HDo := zh (Lq w1.heap.size sa sc l a _ _ S S1 (w1.alloc (.cells #[.slice sa 3 sc, .bool false] 145)) HKn.out (H3.out.below (by have := hRb _ hR3; rw [Hl3.out] at this; exact this)) Hc.out (HA.out.below (by have := hRb _ hR3; rw [Hl3.out] at this; exact this)) (HTw.out.below (by have := hRb _ hR3; rw [Hl3.out] at this; exact this)))
 simp only [KJ] at HDo
 rw [← HEe.out] at HDo
 have b0 := a0 _ hR3
 have b1 := a1 _ hR3
 have b2 := a2 _ hR3
 have b3 := a3 _ hR3
 have b4 := a4 _ hR3
 have b5 := a5 _ hR3
 have b6 := a6 _ hR3
 rw [← Hl3.out] at HDo
 go_wp2_with fail
 refine HDo.out.mono ?_
 rintro e w3 ⟨rfl, hdn⟩
 have Hdn := zh hdn
 clear hdn HDo b0 b1 b2 b3 b4 b5 b6 cc
 by_cases hE0 : E = 0
 case neg =>
  have hb3 := Hdn.out.1 hE0
  have hR4 := hRn _ _ hR3 hb3
  have HE2 := HE
  have HL2 := zh (show XN l a = [] by rw [HL.out, HE2.out, if_neg hE0])
  have HD2 := zh (show Ye l a = false by rw [HD.out, HE2.out, if_neg hE0])
  have q2 : (E != 0) = true := by simpa using hE0
  clear hb3 hE0 HE HL HD Hdn
  have HZW := zh (HZ.out _ hR4)
  have HBW := zh (hRb _ hR4)
  have gz := Aa (j := 0) HZW.out rfl
  have fz := Ab (j := 0) HZW.out
  go_wp2_with fail
  have hu5 : Aq (fun b => b = w.heap.size + 2) w3 (w3.setCell ⟨w.heap.size + 2, 0, none⟩ (.slice none 0 0)) := (Aq.refl (fun b => b = w.heap.size + 2) w3).setCell (p := ⟨w.heap.size + 2, 0, none⟩) (fun _ => rfl) _
  have hk5 : (w3.setCell ⟨w.heap.size + 2, 0, none⟩ (.slice none 0 0)).heap[w.heap.size + 2]? = some (.cells #[.slice none 0 0] 66 (0, 0)) := Ad (j := 0) HZW.out (.slice none 0 0)
  have hB5 := HBW.out.trans (hu5.below (B := w.heap.size) HBW.out.size (fun b hb => by have e2 : b = w.heap.size + 2 := hb; omega))
  generalize w3.setCell ⟨w.heap.size + 2, 0, none⟩ (.slice none 0 0) = x5 at *
  have k0 := Aa (j := 0) hk5 rfl
  refine bodyPost_ret (v := .tuple #[.agg #[.slice none 0 0], .bool false, .int .i64 E]) (by simp [results, Tryz.results37, go_sem]; simp [k0] <;> rfl) rfl ?_
  refine ⟨_, by rw [HD2.out, HE2.out] <;> rfl, by rw [HL2.out]; exact ⟨fun _ => False, BA.nil _ _ _ (fun _ h => h.elim), fun _ h => h.elim⟩, hB5⟩
 obtain ⟨hu3, v3, hk3, ho3⟩ := Hdn.out.2 hE0
 subst hE0
 clear Hdn
 obtain ⟨a3, c3, rfl⟩ := ho3.shape
 have HE2 := HE
 have HL2 := zh (show XN l a = En l a by rw [HL.out, if_pos HE2.out])
 have HD2 := zh (show Ye l a = LI l a by rw [HD.out, if_pos HE2.out])
 clear HE HL HD
 generalize LI l a = ad at *
 have HZW := zh (hu3.blk (HZ.out _ hR3) (fun e => by have e2 : w.heap.size + 2 = w1.heap.size := e; omega))
 have HBW := zh ((hRb _ hR3).trans (hu3.below (B := w.heap.size) (hRb _ hR3).size (fun b hb => by have e2 : b = w1.heap.size := hb; omega)))
 have HK3 := zh hk3
 have HO3 := zh ho3
 have hKz : (w1.alloc (.cells #[.slice sa l.length sc, .bool false] 145)).heap.size = w1.heap.size + 1 := by simp
 have HKz := zh hKz
 clear hu3 hk3 ho3 hKz
 rw [HKz.out] at HO3
 generalize w1.heap.size = K at *
 go_upto_region 7 with fail
 refine wp_region_held (S := In (fun x : World => x.cell? ⟨K, 0, none⟩ = some (.slice a3 (En l a).length c3) ∧ x.cell? ⟨K, 1, none⟩ = some (.bool ad))) (by kernel_rfl) ?_
 change wpAnyH _ _ _ _ _ _ _ _ (World.drew _)
 have HZ0 := zh (show w3.drew.heap[w.heap.size + 2]? = _ from HZW.out)
 have HBx := zh (HBW.out.trans (Below.refl _ _).drew)
 have HOx := zh (HO3.out.below (Below.refl _ _).drew)
 have hC0 : In (fun x : World => x.cell? ⟨K, 0, none⟩ = some (.slice a3 (En l a).length c3) ∧ x.cell? ⟨K, 1, none⟩ = some (.bool ad)) w3.drew := show (fun x : World => x.cell? ⟨K, 0, none⟩ = some (.slice a3 (En l a).length c3) ∧ x.cell? ⟨K, 1, none⟩ = some (.bool ad)) w3.drew from ⟨Aa (j := 0) HK3.out rfl, Aa (j := 1) HK3.out rfl⟩
 clear HZW HBW HO3 HK3
 generalize w3.drew = y0 at *
 refine tk 0 (.pointer (some ⟨K, 0, none⟩)) (fun w hSw => ?_) hC0 ?_
 ·go_simp
 simp only [tkS]
 refine tk 1 (.pointer (some ⟨K, 0, none⟩)) (fun w hSw => ?_) hC0 ?_
 ·go_simp
 simp only [tkS]
 refine tk 2 (.pointer (some ⟨K, 0, none⟩)) (fun w hSw => ?_) hC0 ?_
 ·go_simp
 simp only [tkS]
 refine tk 3 (.agg #[.slice a3 (En l a).length c3]) (fun w hSw => ?_) hC0 ?_
 ·have yq : _ ∧ _ := hSw; have yy := yq.1; go_simp
 simp only [tkS]
 refine tk 4 (.pointer (some ⟨K, 0, none⟩)) (fun w hSw => ?_) hC0 ?_
 ·go_simp
 simp only [tkS]
 refine tk 5 (.pointer (some ⟨K, 0, none⟩)) (fun w hSw => ?_) hC0 ?_
 ·go_simp
 simp only [tkS]
 refine tk 6 (.pointer (some ⟨K, 1, none⟩)) (fun w hSw => ?_) hC0 ?_
 ·go_simp
 simp only [tkS]
 refine tk 7 (.bool ad) (fun w hSw => ?_) hC0 ?_
 ·have yq : _ ∧ _ := hSw; have yy := yq.2; go_simp
 simp only [tkS]
 refine al1 8 ?_
 refine Or.inl ?_
 have HZW := HZ0
 have HBW := HBx
 have gz := Aa (j := 0) HZW.out rfl
 have fz := Ab (j := 0) HZW.out
 have hu5 : Aq (fun b => b = w.heap.size + 2) y0 (y0.setCell ⟨w.heap.size + 2, 0, none⟩ (.slice a3 (En l a).length c3)) := (Aq.refl (fun b => b = w.heap.size + 2) y0).setCell (p := ⟨w.heap.size + 2, 0, none⟩) (fun _ => rfl) _
 have hk5 : (y0.setCell ⟨w.heap.size + 2, 0, none⟩ (.slice a3 (En l a).length c3)).heap[w.heap.size + 2]? = some (.cells #[.slice a3 (En l a).length c3] 66 (0, 0)) := Ad (j := 0) HZW.out (.slice a3 (En l a).length c3)
 have hB5 := HBW.out.trans (hu5.below (B := w.heap.size) HBW.out.size (fun b hb => by have e2 : b = w.heap.size + 2 := hb; omega))
 have hq := (show _ ∧ _ from hC0)
 have hC1 : In (fun x : World => x.cell? ⟨K, 0, none⟩ = some (.slice a3 (En l a).length c3) ∧ x.cell? ⟨K, 1, none⟩ = some (.bool ad)) (y0.setCell ⟨w.heap.size + 2, 0, none⟩ (.slice a3 (En l a).length c3)) := show (fun x : World => x.cell? ⟨K, 0, none⟩ = some (.slice a3 (En l a).length c3) ∧ x.cell? ⟨K, 1, none⟩ = some (.bool ad)) (y0.setCell ⟨w.heap.size + 2, 0, none⟩ (.slice a3 (En l a).length c3)) from ⟨hu5.cell hq.1 (fun e => by have e2 : K = w.heap.size + 2 := e; omega), hu5.cell hq.2 (fun e => by have e2 : K = w.heap.size + 2 := e; omega)⟩
 clear hq
 have Ho5 := zh ((HOx.out.upd hu5 (fun b hb _ e => by have e2 : b = w.heap.size + 2 := e; omega)).mono (B' := w.heap.size) (by omega))
 have Hk5 := zh hk5
 have HB5 := zh hB5
 clear hu5 hk5 hB5
 go_wp2_with fail
 first | refine ⟨hC1, ?_⟩ | skip
 change wpAnyH _ _ _ _ _ _ _ _ (y0.setCell ⟨w.heap.size + 2, 0, none⟩ (.slice a3 (En l a).length c3))
 clear gz fz HZ0
 generalize y0.setCell ⟨w.heap.size + 2, 0, none⟩ (.slice a3 (En l a).length c3) = x5 at *
 refine tk 9 (.bool ad) (fun w hSw => ?_) hC1 ?_
 ·go_simp
 simp only [tkS]
 refine tk 10 (.int .i64 0) (fun w hSw => ?_) hC1 ?_
 ·go_simp
 simp only [tkS]
 refine wpAnyH_done (by kernel_rfl) ?_ _
 have k0 := Aa (j := 0) Hk5.out rfl
 go_wp2_with fail
 refine bodyPost_ret (v := .tuple #[.agg #[.slice a3 (En l a).length c3], .bool ad, .int .i64 0]) (by simp [results, Tryz.results37, go_sem]; simp [k0] <;> rfl) rfl ?_
 refine ⟨_, by rw [HD2.out, HE2.out] <;> rfl, by rw [HL2.out]; exact Ho5.out, HB5.out⟩
end Go.Proofs.YtjdgpgfiomnjkaaGreatDoor
