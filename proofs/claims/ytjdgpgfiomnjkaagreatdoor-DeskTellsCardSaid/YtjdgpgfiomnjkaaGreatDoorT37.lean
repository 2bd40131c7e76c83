/- Walks: the law DeskTells. -/
import Derived.Test.YtjdgpgfiomnjkaaGreatDoorT30
import Derived.Test.YtjdgpgfiomnjkaaGreatDoorT36
set_option linter.all false
set_option maxHeartbeats 32000000
set_option maxRecDepth 100000
namespace Go.Proofs.YtjdgpgfiomnjkaaGreatDoor
open Go.RowKit
theorem Wa {l : List An} {a : Ac} (hc : Be l) : (Gk l a).length ≤ 3 := by
 unfold Gk
 by_cases h : Di l a = 0
 ·rw [if_pos h, (Lf hc h).len]; exact Nat.le_refl 3
 ·rw [if_neg h]; exact Nat.zero_le 3
theorem Xc (l : List An) (a : Ac) : (RZ l a).length ≤ 3 := by
 by_cases h : CJ l = 0
 ·rw [(Qz (a := a) (Eg.1 h)).2.1]; exact Wa (Eg.1 h)
 ·rw [(Qq (a := a) h).2.1]; exact Nat.zero_le 3
theorem Oc (l : List An) (a : Ac) (cv ov uv : Value) (S S1 : Nat → Prop) (w : World) (h : AJ S w cv l) (ha : Eu S1 w a ov uv) (ht : QG w) :
  Calls Tryz.prog 4 #[.agg #[cv], Jh a ov uv] w fun e w' => e = .returned (.bool true) ∧ Below w.heap.size w w' := by
 have H := zh h.low
 have HA := zh (show Eu (fun b => b < w.heap.size) w a ov uv from ⟨ha.objs.lt.weaken fun _ hb => hb.2, ha.upds.lt.weaken fun _ hb => hb.2, ha.kind, ha.on, ha.up, ha.late⟩)
 have HTw := zh ht
 obtain ⟨oa, oc, rfl⟩ := ha.objs.vshape
 obtain ⟨⟨ua, uc⟩, rfl⟩ := ha.upds.shape
 obtain ⟨ac, cap, rfl⟩ := h.vshape
 obtain ⟨R, hR, hR1, HB0⟩ := AI w [.cells #[.slice ac l.length cap] 66, .cells #[.int .i64 a.kind, .int .i64 a.on, .int .i64 a.up, .int .i64 a.late, .slice oa a.push.objects.length oc, .slice ua a.push.updates.length uc, .bool a.push.force] 68]
 simp only [List.foldl] at hR1
 have hRb := hR.below
 have hRn := hR.next
 have c0 := fun x (hx : In R x) => Aa (j := 0) (HB0 x hx 0 _ rfl) rfl
 have p0 := fun x (hx : In R x) => Aa (j := 0) (HB0 x hx 1 _ rfl) rfl
 have p1 := fun x (hx : In R x) => Aa (j := 1) (HB0 x hx 1 _ rfl) rfl
 have p2 := fun x (hx : In R x) => Aa (j := 2) (HB0 x hx 1 _ rfl) rfl
 have p3 := fun x (hx : In R x) => Aa (j := 3) (HB0 x hx 1 _ rfl) rfl
 have p4 := fun x (hx : In R x) => Aa (j := 4) (HB0 x hx 1 _ rfl) rfl
 have p5 := fun x (hx : In R x) => Aa (j := 5) (HB0 x hx 1 _ rfl) rfl
 have p6 := fun x (hx : In R x) => Aa (j := 6) (HB0 x hx 1 _ rfl) rfl
 simp only [Nat.add_zero] at c0
 clear HB0
 have HDo := zh (fun x (hx : In R x) => Np l a _ _ _ _ _ x (H.out.below (hRb _ hx)) (HA.out.below (hRb _ hx)) (HTw.out.below (hRb _ hx)))
 have HSh := zh (fun x (hx : In R x) => Ks l _ _ x (H.out.below (hRb _ hx)) (HTw.out.below (hRb _ hx)))
 have HCc := zh (fun x (hx : In R x) => Le l _ _ x (H.out.below (hRb _ hx)))
 have HSo := zh (fun x (hx : In R x) (hc : Be l) => Sb l _ _ x (H.out.below (hRb _ hx)) hc)
 have HDf := zh (fun x (hx : In R x) (hc : Be l) => VI l a _ _ _ _ _ x (H.out.below (hRb _ hx)) hc (HA.out.below (hRb _ hx)))
 simp only [Jh] at HDo HDf
 have Hlp := zh (Xc l a)
 have cc := c0 _ hR1
 have r0 := p0 _ hR1
 have r1 := p1 _ hR1
 have r2 := p2 _ hR1
 have r3 := p3 _ hR1
 have r4 := p4 _ hR1
 have r5 := p5 _ hR1
 have r6 := p6 _ hR1
 clear h ha ht
 simp only [Jh]
 by_cases hz : CJ l = 0
 case neg =>
  obtain ⟨e1, e2, e3⟩ := Qq (a := a) hz
  have e4 := Sr hz
  have hpl : (RZ l a).length = 0 := by rw [e2]; rfl
  have HIs := zh (show Lg (RZ l a) (CJ l) (CJ l) [] = true by rw [e2]; exact NN _ _ fun _ => rfl)
  rw [e1, e3] at HDo
  rw [e4] at HSh
  have q1 : (CJ l == 0) = false := by simpa using hz
  clear e1 e2 e3 e4 hz HSo HDf hpl
  generalize CJ l = ce at *
  generalize RZ l a = pl at *
  go_enter Tryz.func4, Tryz.ntmps4
  go_wp2_with fail
  refine (HDo.out _ hR1).mono ?_
  rintro e w1 ⟨v1, rfl, ⟨F1, hO1, hF1⟩, hb1⟩
  obtain ⟨a1, c1, rfl⟩ := hO1.shape
  have hR2 := hRn _ _ hR1 hb1
  clear cc r0 r1 r2 r3 r4 r5 r6
  have Hv1 := zh (hO1.any (by have := Hlp.out; omega)).low
  have hbA : Below w1.heap.size w1 (w1.alloc (.cells #[.slice a1 pl.length c1] 66)) := bal
  have hRA := hR.alloc _ (.cells #[.slice a1 pl.length c1] 66) hR2
  have HA1 := zh (heap_alloc_new w1 (.cells #[.slice a1 pl.length c1] 66))
  have HvA := zh (Hv1.out.below hbA)
  clear hO1 hF1 hb1 hbA Hv1
  have cc := c0 _ hRA
  go_wp2_with fail
  refine (HSh.out _ hRA).mono ?_
  rintro e w2 ⟨rfl, hb2⟩
  have hR3 := hRn _ _ hRA hb2
  clear cc
  have HA2 := zh (Ak HA1.out hb2)
  have HvA2 := zh (HvA.out.below hb2)
  clear HA1 HvA hb2
  generalize w1.heap.size = DA at *
  have cc := c0 _ hR3
  go_wp2_with fail
  refine (HCc.out _ hR3).mono ?_
  rintro e w3 ⟨rfl, hb3⟩
  have hR4 := hRn _ _ hR3 hb3
  clear cc
  have HA3 := zh (Ak HA2.out hb3)
  have HvA3 := zh (HvA2.out.below hb3)
  clear HA2 HvA2 hb3
  have hR5 := hR.alloc _ (.cells #[.slice none 0 0] 66) hR4
  have hb5 : Below w3.heap.size w3 (w3.alloc (.cells #[.slice none 0 0] 66)) := bal
  have HA4 := zh (Ak HA3.out hb5)
  have HvT := zh (HvA3.out.below hb5)
  have HW4 := zh (heap_alloc_new w3 (.cells #[.slice none 0 0] 66))
  clear hb5
  have HBt := zh (hRb _ hR5)
  go_wp2_with fail
  generalize w3.heap.size = DW at *
  generalize w3.alloc (.cells #[.slice none 0 0] 66) = t0 at *
  have HwT := zh (AJ.nil (fun _ => True) t0 0 none (by omega))
  refine (Jp _ (HTw.out.below HBt.out)).mono ?_
  rintro e t1 ⟨rfl, hb8⟩
  have HB8 := zh (Aj HBt.out hb8)
  have tA := Aa (j := 0) (Ak HA4.out hb8) rfl
  have tW := Aa (j := 0) (Ak HW4.out hb8) rfl
  have HS := zh (Jo pl [] ce ce _ _ _ _ t1 (HvT.out.below hb8) (HwT.out.below hb8))
  rw [HIs.out] at HS
  clear hb8
  go_wp2_with fail
  refine HS.out.mono ?_
  rintro e t2 ⟨rfl, hb9⟩
  have HE := zh (Aj HB8.out hb9)
  clear hb9 tA tW
  go_wp2_with fail
  go_ret
  exact ⟨rfl, HE.out⟩
 have hc := Eg.1 hz
 obtain ⟨e1, e2, e3⟩ := Qz (a := a) hc
 have e4 := Sg hc
 have HIs := zh (show Lg (Gk l a) (Di l a) (Di l a) (Gk l a) = true from NN _ _ fun h0 => WJ h0)
 rw [e1, e2, e3] at HDo
 rw [e4] at HSh
 rw [e2] at Hlp
 replace HSo := zh (fun x (hx : In R x) => HSo.out x hx hc)
 replace HDf := zh (fun x (hx : In R x) => HDf.out x hx hc)
 rw [hz] at HSh HCc
 clear e1 e2 e3 e4 hz hc
 generalize Mn (Af l (Co l)) = st at *
 generalize Gk l a = pl at *
 generalize Di l a = pe at *
 generalize JP l a = pd at *
 go_enter Tryz.func4, Tryz.ntmps4
 go_wp2_with fail
 refine (HDo.out _ hR1).mono ?_
 rintro e w1 ⟨v1, rfl, ⟨F1, hO1, hF1⟩, hb1⟩
 obtain ⟨a1, c1, rfl⟩ := hO1.shape
 have hR2 := hRn _ _ hR1 hb1
 clear cc r0 r1 r2 r3 r4 r5 r6
 have Hv1 := zh (hO1.any (by have := Hlp.out; omega)).low
 have hbA : Below w1.heap.size w1 (w1.alloc (.cells #[.slice a1 pl.length c1] 66)) := bal
 have hRA := hR.alloc _ (.cells #[.slice a1 pl.length c1] 66) hR2
 have HA1 := zh (heap_alloc_new w1 (.cells #[.slice a1 pl.length c1] 66))
 have HvA := zh (Hv1.out.below hbA)
 clear hO1 hF1 hb1 hbA Hv1
 have cc := c0 _ hRA
 go_wp2_with fail
 refine (HSh.out _ hRA).mono ?_
 rintro e w2 ⟨rfl, hb2⟩
 have hR3 := hRn _ _ hRA hb2
 clear cc
 have HA2 := zh (Ak HA1.out hb2)
 have HvA2 := zh (HvA.out.below hb2)
 clear HA1 HvA hb2
 generalize w1.heap.size = DA at *
 have cc := c0 _ hR3
 go_wp2_with fail
 refine (HCc.out _ hR3).mono ?_
 rintro e w3 ⟨rfl, hb3⟩
 have hR4 := hRn _ _ hR3 hb3
 clear cc
 have HA3 := zh (Ak HA2.out hb3)
 have HvA3 := zh (HvA2.out.below hb3)
 clear HA2 HvA2 hb3
 have hR5 := hR.alloc _ (.cells #[.slice none 0 0] 66) hR4
 have hb5 : Below w3.heap.size w3 (w3.alloc (.cells #[.slice none 0 0] 66)) := bal
 have HA4 := zh (Ak HA3.out hb5)
 have HvA4 := zh ((HvA3.out.low.below hb5).weaken (S' := fun b => b < w3.heap.size) fun b hb => hb.2)
 have HW4 := zh (heap_alloc_new w3 (.cells #[.slice none 0 0] 66))
 have hDA : DA < w3.heap.size := lt_of_block HA3.out
 have hws : w.heap.size + 1 < w3.heap.size := World.block_lt_of_cell? _ _ (p0 _ hR4)
 clear hb5
 have cc := c0 _ hR5
 go_wp2_with fail
 refine (HSo.out _ hR5).mono ?_
 rintro e w5 ⟨rfl, hb6⟩
 have hR6 := hRn _ _ hR5 hb6
 clear cc
 have HA5 := zh (Ak HA4.out hb6)
 have HvA5 := zh (HvA4.out.below hb6)
 have HW5 := zh (Ak HW4.out hb6)
 clear HA4 HvA4 HW4 hb6
 generalize w3.heap.size = DW at *
 have cc := c0 _ hR6
 have r0 := p0 _ hR6
 have r1 := p1 _ hR6
 have r2 := p2 _ hR6
 have r3 := p3 _ hR6
 have r4 := p4 _ hR6
 have r5 := p5 _ hR6
 have r6 := p6 _ hR6
 go_wp2_with fail
 refine (HDf.out _ hR6).mono ?_
 rintro e w6 ⟨v6, rfl, hv6, hb6⟩
 obtain ⟨a6, c6, rfl⟩ := hv6.vshape
 have hR7 := hRn _ _ hR6 hb6
 clear cc r0 r1 r2 r3 r4 r5 r6
 have HA6 := zh (Ak HA5.out hb6)
 have HvA6 := zh (HvA5.out.below hb6)
 have HW6 := zh (Ak HW5.out hb6)
 have hDl := lt_of_block HW5.out
 have Hv6 := zh (hv6.weaken (S' := fun b => b ≠ DW) fun b hb e => by rcases hb with (h | h) | h; have := h.2; omega; omega; omega)
 clear HA5 HvA5 HW5 hb6 hv6
 have gz := Aa (j := 0) HW6.out rfl
 have fz := Ab (j := 0) HW6.out
 have hu7 : Av (fun b => b = DW) w6 (w6.setCell ⟨DW, 0, none⟩ (.slice a6 pl.length c6)) := (Av.refl (fun b => b = DW) _).setCell (p := ⟨DW, 0, none⟩) (fun _ => rfl) _
 have HA4 := zh (hu7.blk HA6.out (fun e => by have e2 : DA = DW := e; omega))
 have HvT := zh (HvA6.out.upd hu7 (fun b hb e => by have e2 : b = DW := e; omega))
 have HwT := zh (Hv6.out.upd hu7 (fun b hb e => hb e))
 have HW4 := zh (Ad (j := 0) HW6.out (.slice a6 pl.length c6))
 have HB7 := zh ((hRb _ hR7).trans (hu7.below (B := w.heap.size) (hRb _ hR7).size (fun b hb => by have e2 : b = DW := hb; omega)))
 go_wp2_with fail
 clear gz fz hu7
 generalize (w6.setCell ⟨DW, 0, none⟩ (.slice a6 pl.length c6)) = t0 at *
 refine (Jp _ (HTw.out.below HB7.out)).mono ?_
 rintro e t1 ⟨rfl, hb8⟩
 have HB8 := zh (Aj HB7.out hb8)
 have tA := Aa (j := 0) (Ak HA4.out hb8) rfl
 have tW := Aa (j := 0) (Ak HW4.out hb8) rfl
 have HS := zh (Jo pl pl pe pe _ _ _ _ t1 (HvT.out.below hb8) (HwT.out.below hb8))
 rw [HIs.out] at HS
 clear hb8
 go_wp2_with fail
 refine HS.out.mono ?_
 rintro e t2 ⟨rfl, hb9⟩
 have HE := zh (Aj HB8.out hb9)
 clear hb9 tA tW
 go_wp2_with fail
 go_ret
 exact ⟨rfl, HE.out⟩
end Go.Proofs.YtjdgpgfiomnjkaaGreatDoor
