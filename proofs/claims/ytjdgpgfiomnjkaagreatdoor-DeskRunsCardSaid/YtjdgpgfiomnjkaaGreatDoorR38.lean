/- Walks: the law DeskRuns. -/
import Derived.Test.YtjdgpgfiomnjkaaGreatDoorR37
set_option linter.all false
set_option maxHeartbeats 32000000
set_option maxRecDepth 100000
namespace Go.Proofs.YtjdgpgfiomnjkaaGreatDoor
open Go.RowKit
theorem UO (s : List Ac) : (Nx s).length ≤ 3 := by
 unfold Nx
 split
 ·rw [(Dq s _).len]; exact Nat.le_refl 3
 ·exact Nat.zero_le 3
theorem Ph (s : List Ac) (sv : Value) (S : Nat → Prop) (w : World) (h : FC S w sv s) (ht : QY w) :
  Calls Tryz.prog 5 #[sv] w fun e w' => e = .returned (.bool true) ∧ Below w.heap.size w w' := by
 obtain ⟨sa, sc, rfl⟩ := h.vshape
 have HR := zh (fun x (hx : Below w.heap.size w x) => Lo s _ S x (h.below hx) (ht.below hx))
 have HO := zh (fun x (hx : Below w.heap.size w x) => UD s _ S x (h.below hx))
 have HTw := zh ht
 clear h ht
 generalize hnn : Kf s = n at *
 have Hnn := zh hnn
 have HN12 := zh (show n ≤ 12 by rw [← hnn]; unfold Kf; split <;> omega)
 clear hnn
 have Hcl := zh (UO s)
 have HIs := zh (Xn s)
 generalize hcc : Nx s = cl at *
 generalize hww : OZ s = rw0 at *
 have Hcc := zh hcc
 clear hcc hww
 go_enter Tryz.func5, Tryz.ntmps5
 go_wp2_with fail
 refine (HR.out _ (Below.refl _ _)).mono ?_
 rintro e w1 ⟨v1, t1, d1, rfl, hv1, hb1⟩
 have hc1 : AE (fun b => b < w1.heap.size) w1 v1 cl := by have := hv1.clu; rw [Hcc.out] at this; exact this.low.weaken fun b hb => hb.2
 obtain ⟨a1, c1, rfl⟩ := hc1.vshape
 have ht1 : w1.ownsRow w.heap.size 4 1 t1 n ((Ft s n).map .bool) := by have := hv1.told; rw [Hnn.out] at this; exact this
 have hd1 : w1.ownsRow w.heap.size 33 1 d1 n ((EH s n).map (.int .i64)) := by have := hv1.done; rw [Hnn.out] at this; exact this
 obtain ⟨⟨ta, tc⟩, rfl⟩ := (show ∃ p : Option Addr × Nat, t1 = .slice p.1 n p.2 from by obtain ⟨a, c, h⟩ := EO ht1; exact ⟨(a, c), h⟩)
 obtain ⟨⟨da, dc⟩, rfl⟩ := (show ∃ p : Option Addr × Nat, d1 = .slice p.1 n p.2 from by obtain ⟨a, c, h⟩ := EO hd1; exact ⟨(a, c), h⟩)
 have Hc1 := zh hc1
 have Ht1 := zh ht1
 have Hd1 := zh hd1
 have HB1 := zh hb1
 clear hv1 hc1 ht1 hd1 hb1
 have hbA : Below w1.heap.size w1 (w1.alloc (.cells #[.slice a1 cl.length c1] 66)) := bal
 have HA1 := zh (heap_alloc_new w1 (.cells #[.slice a1 cl.length c1] 66))
 have HB2 := zh (Aj HB1.out hbA)
 have Hc2 := zh (Hc1.out.below hbA)
 have Ht2 := zh (AS Ht1.out hbA)
 have Hd2 := zh (AS Hd1.out hbA)
 clear hbA Hc1 Ht1 Hd1
 go_wp2_with fail
 generalize w1.alloc (.cells #[.slice a1 cl.length c1] 66) = w2 at *
 generalize w1.heap.size = DA at *
 refine (HO.out _ HB2.out).mono ?_
 rintro e w3 ⟨v3, t3, d3, rfl, hv3, hb3⟩
 have hc3 : AE (fun b => b < w3.heap.size) w3 v3 cl := by have := hv3.clu; rw [Hcc.out] at this; exact this.low.weaken fun b hb => hb.2
 obtain ⟨a3, c3, rfl⟩ := hc3.vshape
 have ht3 : w3.ownsRow w2.heap.size 4 1 t3 n ((Ft s n).map .bool) := by have := hv3.told; rw [Hnn.out] at this; exact this
 have hd3 : w3.ownsRow w2.heap.size 33 1 d3 n ((EH s n).map (.int .i64)) := by have := hv3.done; rw [Hnn.out] at this; exact this
 obtain ⟨⟨tb, te⟩, rfl⟩ := (show ∃ p : Option Addr × Nat, t3 = .slice p.1 n p.2 from by obtain ⟨a, c, h⟩ := EO ht3; exact ⟨(a, c), h⟩)
 obtain ⟨⟨db, de⟩, rfl⟩ := (show ∃ p : Option Addr × Nat, d3 = .slice p.1 n p.2 from by obtain ⟨a, c, h⟩ := EO hd3; exact ⟨(a, c), h⟩)
 have hb4 : Below w3.heap.size w3 (w3.alloc (.cells #[.slice a3 cl.length c3] 66)) := bal
 have hb34 := Aj hb3 hb4
 have HA3 := zh (Al HA1.out hb34)
 have HC3 := zh (heap_alloc_new w3 (.cells #[.slice a3 cl.length c3] 66))
 have HB4 := zh (Aj HB2.out hb34)
 have Hc4 := zh (Hc2.out.below hb34)
 have Ht4 := zh (AS Ht2.out hb34)
 have Hd4 := zh (AS Hd2.out hb34)
 have Hc5 := zh (hc3.below hb4)
 have Ht5 := zh (AS ht3 hb4)
 have Hd5 := zh (AS hd3 hb4)
 clear hv3 hc3 ht3 hd3 hb3 hb4 hb34 HA1 Hc2 Ht2 Hd2 HR HO
 go_upto_region 3 with fail
 generalize w3.alloc (.cells #[.slice a3 cl.length c3] 66) = w4 at *
 generalize w3.heap.size = DB at *
 go_wp2_with fail
 refine (NO _ (HTw.out.below HB4.out)).mono ?_
 rintro e w5 ⟨rfl, hb5⟩
 have HB5 := zh (Aj HB4.out hb5)
 have x0 := Aa (j := 0) (Al HA3.out hb5) rfl
 have x1 := Aa (j := 0) (Al HC3.out hb5) rfl
 have Ht6 := zh (AS Ht4.out hb5)
 have Hd6 := zh (AS Hd4.out hb5)
 have Ht7 := zh (AS Ht5.out hb5)
 have Hd7 := zh (AS Hd5.out hb5)
 have HS := zh (NJ cl cl rw0 rw0 _ _ _ _ w5 (Hc4.out.below hb5) (Hc5.out.below hb5))
 rw [HIs.out] at HS
 clear hb5 Ht4 Hd4 Ht5 Hd5 Hc4 Hc5 HA3 HC3
 go_wp2_with fail
 refine HS.out.mono ?_
 rintro e w6 ⟨rfl, hb6⟩
 have HB6 := zh (Aj HB5.out hb6)
 have Ht8 := zh (AS Ht6.out hb6)
 have Hd8 := zh (AS Hd6.out hb6)
 have Ht9 := zh (AS Ht7.out hb6)
 have Hd9 := zh (AS Hd7.out hb6)
 clear hb6 x0 x1 HS Ht6 Hd6 Ht7 Hd7
 go_wp2_with fail
 obtain ⟨T, hT, hT1, _⟩ := Ax w6
 have hTb := hT.below
 go_loopw [11] (fun i wr => ∃ k : Nat, k ≤ n ∧ i = .int .i64 k ∧ In T wr) (fun i _ => n - (intOf i).toNat)
 case atStart => exact ⟨0, Nat.zero_le _, rfl, hT1⟩
 obtain ⟨k, hk, rfl, hTr⟩ := hrel
 by_cases hlt : k < n
 case neg =>
  obtain rfl : k = n := by omega
  have HE := zh (Aj HB6.out (hTb _ hTr))
  go_wp2_with fail
  go_ret
  exact ⟨rfl, HE.out⟩
 obtain ⟨g1, q1, e1, hg1⟩ := Ja Ht8.out (by omega)
 obtain ⟨g2, q2, e2, hg2⟩ := Ja Hd8.out (by omega)
 obtain ⟨g3, q3, e3, hg3⟩ := Ja Ht9.out (by omega)
 obtain ⟨g4, q4, e4, hg4⟩ := Ja Hd9.out (by omega)
 obtain ⟨bk, hbk⟩ : ∃ bk, ((Ft s n).map Value.bool)[k]? = some (.bool bk) := by
  have hl : k < (Ft s n).length := by rw [Lm]; exact hlt
  exact ⟨(Ft s n)[k], by rw [List.getElem?_map, List.getElem?_eq_getElem hl]; rfl⟩
 obtain ⟨ek, hek⟩ : ∃ ek, ((EH s n).map (Value.int .i64))[k]? = some (.int .i64 ek) := by
  have hl : k < (EH s n).length := by rw [IS]; exact hlt
  exact ⟨(EH s n)[k], by rw [List.getElem?_map, List.getElem?_eq_getElem hl]; rfl⟩
 obtain ⟨rfl, rfl⟩ : ta = some ⟨g1, 0, none⟩ ∧ tc = q1 := by cases e1; exact ⟨rfl, rfl⟩
 obtain ⟨rfl, rfl⟩ : da = some ⟨g2, 0, none⟩ ∧ dc = q2 := by cases e2; exact ⟨rfl, rfl⟩
 obtain ⟨rfl, rfl⟩ : tb = some ⟨g3, 0, none⟩ ∧ te = q3 := by cases e3; exact ⟨rfl, rfl⟩
 obtain ⟨rfl, rfl⟩ : db = some ⟨g4, 0, none⟩ ∧ de = q4 := by cases e4; exact ⟨rfl, rfl⟩
 have y1 := fun x (hx : In T x) => hg1 x k _ (hTb _ hx) hbk
 have y2 := fun x (hx : In T x) => hg2 x k _ (hTb _ hx) hek
 have y3 := fun x (hx : In T x) => hg3 x k _ (hTb _ hx) hbk
 have y4 := fun x (hx : In T x) => hg4 x k _ (hTb _ hx) hek
 have hj1 : (0 : Int) ≤ (k : Int) := by omega
 have hj2 : (k : Int) < (n : Int) := by omega
 clear hg1 hg2 hg3 hg4 hbk hek e1 e2 e3 e4 Ht8 Hd8 Ht9 Hd9
 go_upto_region 8 with fail
 refine wp_region_held (S := In T) (by kernel_rfl) ?_
 change wpAnyH _ _ _ _ _ _ _ _ (World.drew _)
 have hC0 := hT.drew _ hTr
 generalize hx0 : wr.drew = z0 at hC0 ⊢
 clear hx0
 refine tk 0 (.slice (some ⟨g1, 0, none⟩) n tc) (fun w hSw => ?_) hC0 ?_
 ·go_simp
 simp only [tkS]
 refine tk 1 (.int .i64 (k : Int)) (fun w hSw => ?_) hC0 ?_
 ·go_simp
 simp only [tkS]
 refine tk 2 (.pointer (some ⟨g1, k, none⟩)) (fun w hSw => ?_) hC0 ?_
 ·go_simp
 simp only [tkS]
 refine tk 3 (.bool bk) (fun w hSw => ?_) hC0 ?_
 ·have yy := y1 _ hSw; go_simp
 simp only [tkS]
 refine tk 4 (.slice (some ⟨g3, 0, none⟩) n te) (fun w hSw => ?_) hC0 ?_
 ·go_simp
 simp only [tkS]
 refine tk 5 (.int .i64 (k : Int)) (fun w hSw => ?_) hC0 ?_
 ·go_simp
 simp only [tkS]
 refine tk 6 (.pointer (some ⟨g3, k, none⟩)) (fun w hSw => ?_) hC0 ?_
 ·go_simp
 simp only [tkS]
 refine tk 7 (.bool bk) (fun w hSw => ?_) hC0 ?_
 ·have yy := y3 _ hSw; go_simp
 simp only [tkS]
 refine tk 8 (.bool false) (fun w hSw => ?_) hC0 ?_
 ·go_simp
 simp only [tkS]
 refine tk 9 (.bool false) (fun w hSw => ?_) hC0 ?_
 ·go_simp
 simp only [tkS]
 refine tk 10 (.slice (some ⟨g2, 0, none⟩) n dc) (fun w hSw => ?_) hC0 ?_
 ·go_simp
 simp only [tkS]
 refine tk 11 (.int .i64 (k : Int)) (fun w hSw => ?_) hC0 ?_
 ·go_simp
 simp only [tkS]
 refine tk 12 (.pointer (some ⟨g2, k, none⟩)) (fun w hSw => ?_) hC0 ?_
 ·go_simp
 simp only [tkS]
 refine tk 13 (.int .i64 ek) (fun w hSw => ?_) hC0 ?_
 ·have yy := y2 _ hSw; go_simp
 simp only [tkS]
 refine tk 14 (.slice (some ⟨g4, 0, none⟩) n de) (fun w hSw => ?_) hC0 ?_
 ·go_simp
 simp only [tkS]
 refine tk 15 (.int .i64 (k : Int)) (fun w hSw => ?_) hC0 ?_
 ·go_simp
 simp only [tkS]
 refine tk 16 (.pointer (some ⟨g4, k, none⟩)) (fun w hSw => ?_) hC0 ?_
 ·go_simp
 simp only [tkS]
 refine tk 17 (.int .i64 ek) (fun w hSw => ?_) hC0 ?_
 ·have yy := y4 _ hSw; go_simp
 simp only [tkS]
 refine tk 18 (.bool false) (fun w hSw => ?_) hC0 ?_
 ·go_simp
 simp only [tkS]
 refine tk 19 (.bool false) (fun w hSw => ?_) hC0 ?_
 ·go_simp
 simp only [tkS]
 refine wpAnyH_done (by kernel_rfl) ?_ _
 have h12 := HN12.out
 go_wp2_with fail
 go_roundw
 case rel => exact ⟨k + 1, by omega, by go_num, hC0⟩
 case measure => simp [intOf]; omega
end Go.Proofs.YtjdgpgfiomnjkaaGreatDoor
