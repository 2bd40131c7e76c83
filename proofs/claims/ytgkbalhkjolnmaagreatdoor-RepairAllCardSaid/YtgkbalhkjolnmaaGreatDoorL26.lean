
/- RepE: walk of repairBegun. -/
import Derived.Test.YtgkbalhkjolnmaaGreatDoorL24
import Derived.Test.YtgkbalhkjolnmaaGreatDoorL15
import Derived.Test.YtgkbalhkjolnmaaGreatDoorL25
import Derived.Deep.DeepCutAuto
namespace Go.Proofs.YtgkbalhkjolnmaaGreatDoor
open Go.RowKit
set_option linter.unusedVariables false
set_option linter.unusedSimpArgs false
def oldR : Rep := ⟨shelfL.take 3, namesL.take 1, 2, 0, psh0⟩
theorem begun_r1 : fromE hostR oldR = 0 := by decide +kernel
theorem begun_r2 : fromE oldR hostR = 4 := by decide +kernel
theorem begun_r3 : sameRep (fromR hostR oldR) hostR = true := by decide +kernel
theorem begun_r4 : allE [hostR, oldR, hostR] = 0 := by decide +kernel
theorem begun_r5 : allN [hostR, oldR, hostR] = 1 := by decide +kernel
theorem begun_r6 : sameRep (rep (allL [hostR, oldR, hostR]) 1) hostR = true := by decide +kernel
theorem begun_r7 : (allL [hostR, oldR, hostR]).length = 3 := by decide +kernel
set_option maxRecDepth 100000 in
set_option maxHeartbeats 8000000 in
theorem repairBegun_any (w : World) : Calls Tryz.prog 22 #[] w fun e w' => e = .returned (.bool true) ∧ Below w.heap.size w w' := by
 go_enter Tryz.func22, Tryz.ntmps22
 go_upto_region 1 with fail
 go_cut [1] (fun s1 wx => ∃ D1, s1 = .pointer (some ⟨D1, 0, none⟩) ∧ ∃ y, y = wx ∧ Hid (BoxR D1 y oldR ∧ Below w.heap.size w y))
 case first =>
  obtain ⟨Q, hQ, hQ1, hQu⟩ := cls_new w
  have hQb := hQ.below
  have hQn := hQ.next
  have HQu := Lib.hid hQu
  clear hQu
  refine wp_region_held (S := In Q) (by kernel_rfl) ?_
  change wpAnyH _ _ _ _ _ _ _ _ (World.drew _)
  have hC0 := hQ.drew _ hQ1
  generalize w.drew = x0 at hC0 ⊢
  refine wpAnyH_all (rs := [0, 5]) (by kernel_rfl) (by simp) (fun j hj => ?_)
  rcases List.mem_cons.1 hj with rfl | hj
  ·skip
   refine Or.inl ?_
   go_wp2_with fail
   refine (shelf_any _).mono ?_
   rintro e x1 ⟨v0, rfl, hv0, hb0⟩
   obtain ⟨a0, c0, rfl⟩ := hv0.vshape
   have hc0 : 5 ≤ c0 := by obtain ⟨_, ⟨_, _, e, h1, _⟩, _⟩ := hv0; cases e; exact h1
   have hC1 := hQn _ _ hC0 hb0
   have Hv0 := Lib.hid (show StoreV (fun b => x0.heap.size ≤ b ∧ b < x1.heap.size) x1 (.slice a0 3 c0) (shelfL.take 3) from (hv0.lt.take (i := 3) (by decide)))
   clear hv0 hb0
   rw [show shelfL.length = 5 from rfl]
   go_simp
   have hq1 : (3 : Int) ≤ (c0 : Int) := by omega
   have hq2 : 3 ≤ c0 := by omega
   refine wpAnyH_take (i := 1) (v := .slice a0 3 c0) rfl (by kernel_rfl) (by kernel_rfl) (by kernel_rfl) (fun _ _ _ h => h) (Or.inl ⟨by rfl, fun w hSw => ?_⟩) hC1 ?_
   ·go_simp
   simp only [Act.put, List.getElem_toArray, List.getElem_cons_zero, List.getElem_cons_succ, List.setIfInBounds_toArray, List.set_cons_zero, List.set_cons_succ]
   refine wpAnyH_all (rs := [2, 5]) (by kernel_rfl) (by simp) (fun j hj => ?_)
   rcases List.mem_cons.1 hj with rfl | hj
   ·skip
    refine Or.inl ?_
    go_wp2_with fail
    refine (names_any _).mono ?_
    rintro e x2 ⟨v1, rfl, hv1, hb1⟩
    obtain ⟨⟨a1, c1⟩, rfl⟩ := hv1.shape
    have hc1 : 2 ≤ c1 := by obtain ⟨⟨_, _, e, h1, _⟩, _⟩ := hv1; cases e; exact h1
    have hC2 := hQn _ _ hC1 hb1
    replace Hv0 := Lib.hid (Hv0.out.below hb1)
    have Hv1 := Lib.hid (show RefsV (fun b => x1.heap.size ≤ b ∧ b < x2.heap.size) x2 (.slice a1 1 c1) (namesL.take 1) from (hv1.lt.take (i := 1) (by decide)))
    clear hv1 hb1
    rw [show namesL.length = 2 from rfl]
    go_simp
    have hq3 : (1 : Int) ≤ (c1 : Int) := by omega
    have hq4 : 1 ≤ c1 := by omega
    refine wpAnyH_take (i := 3) (v := .slice a1 1 c1) rfl (by kernel_rfl) (by kernel_rfl) (by kernel_rfl) (fun _ _ _ h => h) (Or.inl ⟨by rfl, fun w hSw => ?_⟩) hC2 ?_
    ·go_simp
    simp only [Act.put, List.getElem_toArray, List.getElem_cons_zero, List.getElem_cons_succ, List.setIfInBounds_toArray, List.set_cons_zero, List.set_cons_succ]
    refine wpAnyH_take (i := 4) (v := .agg #[.slice a0 3 c0, .slice a1 1 c1, .int .i64 2, .int .i64 0, .slice none 0 0, .slice none 0 0, .bool false]) rfl (by kernel_rfl) (by kernel_rfl) (by kernel_rfl) (fun _ _ _ h => h) (Or.inl ⟨by rfl, fun w hSw => ?_⟩) hC2 ?_
    ·go_simp
    simp only [Act.put, List.getElem_toArray, List.getElem_cons_zero, List.getElem_cons_succ, List.setIfInBounds_toArray, List.set_cons_zero, List.set_cons_succ]
    refine wpAnyH_all (rs := [5]) (by kernel_rfl) (by simp) (fun j hj => ?_)
    obtain rfl : j = 5 := by simpa using hj
    refine Or.inl ?_
    have hsA := (hQb _ hC2).size
    have HL0 := Lib.hid Hv0.out.lt
    have HL1 := Lib.hid Hv1.out.lt
    replace Hv0 := Lib.hid (HL0.out.weaken (S' := fun b => b < x2.heap.size) fun b hb => hb.2)
    clear HL0
    replace Hv1 := Lib.hid (HL1.out.weaken (S' := fun b => b < x2.heap.size) fun b hb => hb.2)
    clear HL1
    have hC3 := hQ.alloc _ (.cells #[.slice none 0 0, .slice none 0 0, .int .i64 0, .int .i64 0, .slice none 0 0, .slice none 0 0, .bool false] 43) hC2
    go_simp
    have hbA : Below x2.heap.size x2 (x2.alloc (.cells #[.slice none 0 0, .slice none 0 0, .int .i64 0, .int .i64 0, .slice none 0 0, .slice none 0 0, .bool false] 43)) := (Below.refl _ _).alloc (Nat.le_refl _) _
    have HDb := Lib.hid (heap_alloc_new x2 (.cells #[.slice none 0 0, .slice none 0 0, .int .i64 0, .int .i64 0, .slice none 0 0, .slice none 0 0, .bool false] 43))
    have HDlt := Lib.hid (show x2.heap.size < (x2.alloc (.cells #[.slice none 0 0, .slice none 0 0, .int .i64 0, .int .i64 0, .slice none 0 0, .slice none 0 0, .bool false] 43)).heap.size by simp)
    have HDge := Lib.hid (hQb _ hC2).size
    replace Hv0 := Lib.hid (Hv0.out.below hbA)
    replace Hv1 := Lib.hid (Hv1.out.below hbA)
    clear hbA
    generalize x2.heap.size = D at *
    generalize x2.alloc (.cells #[.slice none 0 0, .slice none 0 0, .int .i64 0, .int .i64 0, .slice none 0 0, .slice none 0 0, .bool false] 43) = x3 at *
    have Hd0 := Lib.hid (fun b (hb : b < D) => show b ≠ D by omega)
    have Hd1 := Lib.hid (fun b (hb : b < D) => show b ≠ D by omega)
    refine wpAnyH_all (rs := [6]) (by kernel_rfl) (by simp) (fun j hj => ?_)
    obtain rfl : j = 6 := by simpa using hj
    refine Or.inl ?_
    have HvR := Lib.hid (show RepIs (fun b => b ≠ D) x3 oldR (.slice a0 3 c0) (.slice a1 1 c1) (.slice none 0 0) (.slice none 0 0) from ⟨Hv0.out.weaken Hd0.out, Hv1.out.weaken Hd1.out, StoreV.nil _ _ _ _ (by omega), MvsV.nil _ _ _ _ (by omega), by show I64 2; unfold I64; decide, by show I64 0; unfold I64; decide⟩)
    have hblk := HDb.out
    have g0 := block_cell (j := 0) hblk rfl
    have g1 := block_cell (j := 1) hblk rfl
    have g2 := block_cell (j := 2) hblk rfl
    have g3 := block_cell (j := 3) hblk rfl
    have g4 := block_cell (j := 4) hblk rfl
    have g5 := block_cell (j := 5) hblk rfl
    have g6 := block_cell (j := 6) hblk rfl
    have f0 := block_free (j := 0) hblk
    have f1 := block_free (j := 1) hblk
    have f2 := block_free (j := 2) hblk
    have f3 := block_free (j := 3) hblk
    have f4 := block_free (j := 4) hblk
    have f5 := block_free (j := 5) hblk
    have f6 := block_free (j := 6) hblk
    have Hb7 := Lib.hid (set7_is (v0 := .slice a0 3 c0) (v1 := .slice a1 1 c1) (v2 := .int .i64 2) (v3 := .int .i64 0) (v4 := .slice none 0 0) (v5 := .slice none 0 0) (v6 := .bool false) hblk)
    have Hu7 := Lib.hid (set7_upd D (.slice a0 3 c0) (.slice a1 1 c1) (.int .i64 2) (.int .i64 0) (.slice none 0 0) (.slice none 0 0) (.bool false) x3)
    have hQ7 := HQu.out _ _ _ hC3 Hu7.out (fun b hb => by have := HDge.out; omega)
    have HB := Lib.hid (show BoxR D (set7 D (.slice a0 3 c0) (.slice a1 1 c1) (.int .i64 2) (.int .i64 0) (.slice none 0 0) (.slice none 0 0) (.bool false) x3) oldR from ⟨_, _, _, _, _, _, _, _, Hb7.out, RepIs.weaken (HvR.out.upd Hu7.out (fun b hb e => hb e)) fun _ _ => trivial⟩)
    clear HDb Hb7 HvR
    go_wp2_with fail
    first | refine ⟨hQ7, by kernel_rfl, ?_⟩ | refine ⟨by kernel_rfl, ?_⟩
    change Exit.then _ _ _ _ (set7 D (.slice a0 3 c0) (.slice a1 1 c1) (.int .i64 2) (.int .i64 0) (.slice none 0 0) (.slice none 0 0) (.bool false) x3)
    generalize set7 D (.slice a0 3 c0) (.slice a1 1 c1) (.int .i64 2) (.int .i64 0) (.slice none 0 0) (.slice none 0 0) (.bool false) x3 = w7 at *
    clear g0 g1 g2 g3 g4 g5 g6 f0 f1 f2 f3 f4 f5 f6 hblk Hu7
    have HB2 := Lib.hid (And.intro HB.out (hQb _ hQ7))
    go_wp2_with fail
    go_meet
    exact ⟨_, rfl, _, rfl, HB2.out⟩
   ·skip
    obtain rfl : j = 5 := by simpa using hj
    refine Or.inl ?_
    have hsA := (hQb _ hC1).size
    have HL0 := Lib.hid Hv0.out.lt
    replace Hv0 := Lib.hid (HL0.out.weaken (S' := fun b => b < x1.heap.size) fun b hb => hb.2)
    clear HL0
    have hC2 := hQ.alloc _ (.cells #[.slice none 0 0, .slice none 0 0, .int .i64 0, .int .i64 0, .slice none 0 0, .slice none 0 0, .bool false] 43) hC1
    go_simp
    have hbA : Below x1.heap.size x1 (x1.alloc (.cells #[.slice none 0 0, .slice none 0 0, .int .i64 0, .int .i64 0, .slice none 0 0, .slice none 0 0, .bool false] 43)) := (Below.refl _ _).alloc (Nat.le_refl _) _
    have HDb := Lib.hid (heap_alloc_new x1 (.cells #[.slice none 0 0, .slice none 0 0, .int .i64 0, .int .i64 0, .slice none 0 0, .slice none 0 0, .bool false] 43))
    have HDlt := Lib.hid (show x1.heap.size < (x1.alloc (.cells #[.slice none 0 0, .slice none 0 0, .int .i64 0, .int .i64 0, .slice none 0 0, .slice none 0 0, .bool false] 43)).heap.size by simp)
    have HDge := Lib.hid (hQb _ hC1).size
    replace Hv0 := Lib.hid (Hv0.out.below hbA)
    clear hbA
    generalize x1.heap.size = D at *
    generalize x1.alloc (.cells #[.slice none 0 0, .slice none 0 0, .int .i64 0, .int .i64 0, .slice none 0 0, .slice none 0 0, .bool false] 43) = x2 at *
    have Hd0 := Lib.hid (fun b (hb : b < D) => show b ≠ D by omega)
    refine wpAnyH_all (rs := [2]) (by kernel_rfl) (by simp) (fun j hj => ?_)
    obtain rfl : j = 2 := by simpa using hj
    refine Or.inl ?_
    have HDl2 := Lib.hid (show D < x2.heap.size from lt_of_block HDb.out)
    go_wp2_with fail
    refine (names_any _).mono ?_
    rintro e x3 ⟨v1, rfl, hv1, hb1⟩
    obtain ⟨⟨a1, c1⟩, rfl⟩ := hv1.shape
    have hc1 : 2 ≤ c1 := by obtain ⟨⟨_, _, e, h1, _⟩, _⟩ := hv1; cases e; exact h1
    have hC3 := hQn _ _ hC2 hb1
    replace Hv0 := Lib.hid (Hv0.out.below hb1)
    replace HDb := Lib.hid (blk_below HDb.out hb1)
    have Hv1 := Lib.hid (show RefsV (fun b => x2.heap.size ≤ b ∧ b < x3.heap.size) x3 (.slice a1 1 c1) (namesL.take 1) from (hv1.lt.take (i := 1) (by decide)))
    clear hv1 hb1
    rw [show namesL.length = 2 from rfl]
    go_simp
    have Hd1 := Lib.hid (fun b (hb : x2.heap.size ≤ b ∧ b < x3.heap.size) => show b ≠ D by have := HDl2.out; omega)
    have hq3 : (1 : Int) ≤ (c1 : Int) := by omega
    have hq4 : 1 ≤ c1 := by omega
    refine wpAnyH_take (i := 3) (v := .slice a1 1 c1) rfl (by kernel_rfl) (by kernel_rfl) (by kernel_rfl) (fun _ _ _ h => h) (Or.inl ⟨by rfl, fun w hSw => ?_⟩) hC3 ?_
    ·go_simp
    simp only [Act.put, List.getElem_toArray, List.getElem_cons_zero, List.getElem_cons_succ, List.setIfInBounds_toArray, List.set_cons_zero, List.set_cons_succ]
    refine wpAnyH_take (i := 4) (v := .agg #[.slice a0 3 c0, .slice a1 1 c1, .int .i64 2, .int .i64 0, .slice none 0 0, .slice none 0 0, .bool false]) rfl (by kernel_rfl) (by kernel_rfl) (by kernel_rfl) (fun _ _ _ h => h) (Or.inl ⟨by rfl, fun w hSw => ?_⟩) hC3 ?_
    ·go_simp
    simp only [Act.put, List.getElem_toArray, List.getElem_cons_zero, List.getElem_cons_succ, List.setIfInBounds_toArray, List.set_cons_zero, List.set_cons_succ]
    refine wpAnyH_all (rs := [6]) (by kernel_rfl) (by simp) (fun j hj => ?_)
    obtain rfl : j = 6 := by simpa using hj
    refine Or.inl ?_
    have HvR := Lib.hid (show RepIs (fun b => b ≠ D) x3 oldR (.slice a0 3 c0) (.slice a1 1 c1) (.slice none 0 0) (.slice none 0 0) from ⟨Hv0.out.weaken Hd0.out, Hv1.out.weaken Hd1.out, StoreV.nil _ _ _ _ (by omega), MvsV.nil _ _ _ _ (by omega), by show I64 2; unfold I64; decide, by show I64 0; unfold I64; decide⟩)
    have hblk := HDb.out
    have g0 := block_cell (j := 0) hblk rfl
    have g1 := block_cell (j := 1) hblk rfl
    have g2 := block_cell (j := 2) hblk rfl
    have g3 := block_cell (j := 3) hblk rfl
    have g4 := block_cell (j := 4) hblk rfl
    have g5 := block_cell (j := 5) hblk rfl
    have g6 := block_cell (j := 6) hblk rfl
    have f0 := block_free (j := 0) hblk
    have f1 := block_free (j := 1) hblk
    have f2 := block_free (j := 2) hblk
    have f3 := block_free (j := 3) hblk
    have f4 := block_free (j := 4) hblk
    have f5 := block_free (j := 5) hblk
    have f6 := block_free (j := 6) hblk
    have Hb7 := Lib.hid (set7_is (v0 := .slice a0 3 c0) (v1 := .slice a1 1 c1) (v2 := .int .i64 2) (v3 := .int .i64 0) (v4 := .slice none 0 0) (v5 := .slice none 0 0) (v6 := .bool false) hblk)
    have Hu7 := Lib.hid (set7_upd D (.slice a0 3 c0) (.slice a1 1 c1) (.int .i64 2) (.int .i64 0) (.slice none 0 0) (.slice none 0 0) (.bool false) x3)
    have hQ7 := HQu.out _ _ _ hC3 Hu7.out (fun b hb => by have := HDge.out; omega)
    have HB := Lib.hid (show BoxR D (set7 D (.slice a0 3 c0) (.slice a1 1 c1) (.int .i64 2) (.int .i64 0) (.slice none 0 0) (.slice none 0 0) (.bool false) x3) oldR from ⟨_, _, _, _, _, _, _, _, Hb7.out, RepIs.weaken (HvR.out.upd Hu7.out (fun b hb e => hb e)) fun _ _ => trivial⟩)
    clear HDb Hb7 HvR
    go_wp2_with fail
    first | refine ⟨hQ7, by kernel_rfl, ?_⟩ | refine ⟨by kernel_rfl, ?_⟩
    change Exit.then _ _ _ _ (set7 D (.slice a0 3 c0) (.slice a1 1 c1) (.int .i64 2) (.int .i64 0) (.slice none 0 0) (.slice none 0 0) (.bool false) x3)
    generalize set7 D (.slice a0 3 c0) (.slice a1 1 c1) (.int .i64 2) (.int .i64 0) (.slice none 0 0) (.slice none 0 0) (.bool false) x3 = w7 at *
    clear g0 g1 g2 g3 g4 g5 g6 f0 f1 f2 f3 f4 f5 f6 hblk Hu7
    have HB2 := Lib.hid (And.intro HB.out (hQb _ hQ7))
    go_wp2_with fail
    go_meet
    exact ⟨_, rfl, _, rfl, HB2.out⟩
  ·skip
   obtain rfl : j = 5 := by simpa using hj
   refine Or.inl ?_
   have hsA := (hQb _ hC0).size
   have hC1 := hQ.alloc _ (.cells #[.slice none 0 0, .slice none 0 0, .int .i64 0, .int .i64 0, .slice none 0 0, .slice none 0 0, .bool false] 43) hC0
   go_simp
   have hbA : Below x0.heap.size x0 (x0.alloc (.cells #[.slice none 0 0, .slice none 0 0, .int .i64 0, .int .i64 0, .slice none 0 0, .slice none 0 0, .bool false] 43)) := (Below.refl _ _).alloc (Nat.le_refl _) _
   have HDb := Lib.hid (heap_alloc_new x0 (.cells #[.slice none 0 0, .slice none 0 0, .int .i64 0, .int .i64 0, .slice none 0 0, .slice none 0 0, .bool false] 43))
   have HDlt := Lib.hid (show x0.heap.size < (x0.alloc (.cells #[.slice none 0 0, .slice none 0 0, .int .i64 0, .int .i64 0, .slice none 0 0, .slice none 0 0, .bool false] 43)).heap.size by simp)
   have HDge := Lib.hid (hQb _ hC0).size
   clear hbA
   generalize x0.heap.size = D at *
   generalize x0.alloc (.cells #[.slice none 0 0, .slice none 0 0, .int .i64 0, .int .i64 0, .slice none 0 0, .slice none 0 0, .bool false] 43) = x1 at *
   refine wpAnyH_all (rs := [0]) (by kernel_rfl) (by simp) (fun j hj => ?_)
   obtain rfl : j = 0 := by simpa using hj
   refine Or.inl ?_
   have HDl1 := Lib.hid (show D < x1.heap.size from lt_of_block HDb.out)
   go_wp2_with fail
   refine (shelf_any _).mono ?_
   rintro e x2 ⟨v0, rfl, hv0, hb0⟩
   obtain ⟨a0, c0, rfl⟩ := hv0.vshape
   have hc0 : 5 ≤ c0 := by obtain ⟨_, ⟨_, _, e, h1, _⟩, _⟩ := hv0; cases e; exact h1
   have hC2 := hQn _ _ hC1 hb0
   replace HDb := Lib.hid (blk_below HDb.out hb0)
   have Hv0 := Lib.hid (show StoreV (fun b => x1.heap.size ≤ b ∧ b < x2.heap.size) x2 (.slice a0 3 c0) (shelfL.take 3) from (hv0.lt.take (i := 3) (by decide)))
   clear hv0 hb0
   rw [show shelfL.length = 5 from rfl]
   go_simp
   have Hd0 := Lib.hid (fun b (hb : x1.heap.size ≤ b ∧ b < x2.heap.size) => show b ≠ D by have := HDl1.out; omega)
   have hq1 : (3 : Int) ≤ (c0 : Int) := by omega
   have hq2 : 3 ≤ c0 := by omega
   refine wpAnyH_take (i := 1) (v := .slice a0 3 c0) rfl (by kernel_rfl) (by kernel_rfl) (by kernel_rfl) (fun _ _ _ h => h) (Or.inl ⟨by rfl, fun w hSw => ?_⟩) hC2 ?_
   ·go_simp
   simp only [Act.put, List.getElem_toArray, List.getElem_cons_zero, List.getElem_cons_succ, List.setIfInBounds_toArray, List.set_cons_zero, List.set_cons_succ]
   refine wpAnyH_all (rs := [2]) (by kernel_rfl) (by simp) (fun j hj => ?_)
   obtain rfl : j = 2 := by simpa using hj
   refine Or.inl ?_
   have HDl2 := Lib.hid (show D < x2.heap.size from lt_of_block HDb.out)
   go_wp2_with fail
   refine (names_any _).mono ?_
   rintro e x3 ⟨v1, rfl, hv1, hb1⟩
   obtain ⟨⟨a1, c1⟩, rfl⟩ := hv1.shape
   have hc1 : 2 ≤ c1 := by obtain ⟨⟨_, _, e, h1, _⟩, _⟩ := hv1; cases e; exact h1
   have hC3 := hQn _ _ hC2 hb1
   replace HDb := Lib.hid (blk_below HDb.out hb1)
   replace Hv0 := Lib.hid (Hv0.out.below hb1)
   have Hv1 := Lib.hid (show RefsV (fun b => x2.heap.size ≤ b ∧ b < x3.heap.size) x3 (.slice a1 1 c1) (namesL.take 1) from (hv1.lt.take (i := 1) (by decide)))
   clear hv1 hb1
   rw [show namesL.length = 2 from rfl]
   go_simp
   have Hd1 := Lib.hid (fun b (hb : x2.heap.size ≤ b ∧ b < x3.heap.size) => show b ≠ D by have := HDl2.out; omega)
   have hq3 : (1 : Int) ≤ (c1 : Int) := by omega
   have hq4 : 1 ≤ c1 := by omega
   refine wpAnyH_take (i := 3) (v := .slice a1 1 c1) rfl (by kernel_rfl) (by kernel_rfl) (by kernel_rfl) (fun _ _ _ h => h) (Or.inl ⟨by rfl, fun w hSw => ?_⟩) hC3 ?_
   ·go_simp
   simp only [Act.put, List.getElem_toArray, List.getElem_cons_zero, List.getElem_cons_succ, List.setIfInBounds_toArray, List.set_cons_zero, List.set_cons_succ]
   refine wpAnyH_take (i := 4) (v := .agg #[.slice a0 3 c0, .slice a1 1 c1, .int .i64 2, .int .i64 0, .slice none 0 0, .slice none 0 0, .bool false]) rfl (by kernel_rfl) (by kernel_rfl) (by kernel_rfl) (fun _ _ _ h => h) (Or.inl ⟨by rfl, fun w hSw => ?_⟩) hC3 ?_
   ·go_simp
   simp only [Act.put, List.getElem_toArray, List.getElem_cons_zero, List.getElem_cons_succ, List.setIfInBounds_toArray, List.set_cons_zero, List.set_cons_succ]
   refine wpAnyH_all (rs := [6]) (by kernel_rfl) (by simp) (fun j hj => ?_)
   obtain rfl : j = 6 := by simpa using hj
   refine Or.inl ?_
   have HvR := Lib.hid (show RepIs (fun b => b ≠ D) x3 oldR (.slice a0 3 c0) (.slice a1 1 c1) (.slice none 0 0) (.slice none 0 0) from ⟨Hv0.out.weaken Hd0.out, Hv1.out.weaken Hd1.out, StoreV.nil _ _ _ _ (by omega), MvsV.nil _ _ _ _ (by omega), by show I64 2; unfold I64; decide, by show I64 0; unfold I64; decide⟩)
   have hblk := HDb.out
   have g0 := block_cell (j := 0) hblk rfl
   have g1 := block_cell (j := 1) hblk rfl
   have g2 := block_cell (j := 2) hblk rfl
   have g3 := block_cell (j := 3) hblk rfl
   have g4 := block_cell (j := 4) hblk rfl
   have g5 := block_cell (j := 5) hblk rfl
   have g6 := block_cell (j := 6) hblk rfl
   have f0 := block_free (j := 0) hblk
   have f1 := block_free (j := 1) hblk
   have f2 := block_free (j := 2) hblk
   have f3 := block_free (j := 3) hblk
   have f4 := block_free (j := 4) hblk
   have f5 := block_free (j := 5) hblk
   have f6 := block_free (j := 6) hblk
   have Hb7 := Lib.hid (set7_is (v0 := .slice a0 3 c0) (v1 := .slice a1 1 c1) (v2 := .int .i64 2) (v3 := .int .i64 0) (v4 := .slice none 0 0) (v5 := .slice none 0 0) (v6 := .bool false) hblk)
   have Hu7 := Lib.hid (set7_upd D (.slice a0 3 c0) (.slice a1 1 c1) (.int .i64 2) (.int .i64 0) (.slice none 0 0) (.slice none 0 0) (.bool false) x3)
   have hQ7 := HQu.out _ _ _ hC3 Hu7.out (fun b hb => by have := HDge.out; omega)
   have HB := Lib.hid (show BoxR D (set7 D (.slice a0 3 c0) (.slice a1 1 c1) (.int .i64 2) (.int .i64 0) (.slice none 0 0) (.slice none 0 0) (.bool false) x3) oldR from ⟨_, _, _, _, _, _, _, _, Hb7.out, RepIs.weaken (HvR.out.upd Hu7.out (fun b hb e => hb e)) fun _ _ => trivial⟩)
   clear HDb Hb7 HvR
   go_wp2_with fail
   first | refine ⟨hQ7, by kernel_rfl, ?_⟩ | refine ⟨by kernel_rfl, ?_⟩
   change Exit.then _ _ _ _ (set7 D (.slice a0 3 c0) (.slice a1 1 c1) (.int .i64 2) (.int .i64 0) (.slice none 0 0) (.slice none 0 0) (.bool false) x3)
   generalize set7 D (.slice a0 3 c0) (.slice a1 1 c1) (.int .i64 2) (.int .i64 0) (.slice none 0 0) (.slice none 0 0) (.bool false) x3 = w7 at *
   clear g0 g1 g2 g3 g4 g5 g6 f0 f1 f2 f3 f4 f5 f6 hblk Hu7
   have HB2 := Lib.hid (And.intro HB.out (hQb _ hQ7))
   go_wp2_with fail
   go_meet
   exact ⟨_, rfl, _, rfl, HB2.out⟩
 case rest =>
  obtain ⟨D1, rfl, y1, rfl, HK1⟩ := hcut
  go_upto_region 2 with fail
  go_cut [2, 3] (fun s2 s3 wx => ∃ D2, s2 = .pointer (some ⟨D2, 0, none⟩) ∧ s3 = .int .i64 0 ∧ ∃ y, y = wx ∧ Hid (BoxR D1 y oldR ∧ BoxR D2 y (fromR hostR oldR) ∧ Below w.heap.size w y))
  case first =>
   obtain ⟨sa1, sc1, ra1, rc1, oa1, oc1, ua1, uc1, hbk1, hr1⟩ := HK1.out.1
   have hD1 := lt_of_block hbk1
   obtain ⟨Q, hQ, hQ1, hQu⟩ := cls_new y1
   have hQb := hQ.below
   have hQn := hQ.next
   have HQu := Lib.hid hQu
   clear hQu
   have HBk := Lib.hid (fun x (hx : In Q x) => show x.heap[D1]? = some (.cells #[.slice sa1 (oldR).store.length sc1, .slice ra1 (oldR).refs.length rc1, .int .i64 (oldR).gen, .int .i64 (oldR).phase, .slice oa1 (oldR).pend.objects.length oc1, .slice ua1 (oldR).pend.updates.length uc1, .bool (oldR).pend.force] 43 (0, 0)) from blk_below hbk1 (hQb _ hx))
   have HRo := Lib.hid (fun x (hx : In Q x) => hr1.below (hQb _ hx))
   clear hbk1 hr1
   refine wp_region_held (S := In Q) (by kernel_rfl) ?_
   change wpAnyH _ _ _ _ _ _ _ _ (World.drew _)
   have hC0 := hQ.drew _ hQ1
   generalize y1.drew = x0 at hC0 ⊢
   refine wpAnyH_take (i := 1) (v := .agg #[.slice sa1 (oldR).store.length sc1, .slice ra1 (oldR).refs.length rc1, .int .i64 (oldR).gen, .int .i64 (oldR).phase, .slice oa1 (oldR).pend.objects.length oc1, .slice ua1 (oldR).pend.updates.length uc1, .bool (oldR).pend.force]) rfl (by kernel_rfl) (by kernel_rfl) (by kernel_rfl) (fun _ _ _ h => h) (Or.inl ⟨by rfl, fun w hSw => ?_⟩) hC0 ?_
   ·have hbk := HBk.out _ hSw
    have y0 := block_cell (j := 0) hbk rfl
    have y1 := block_cell (j := 1) hbk rfl
    have y2 := block_cell (j := 2) hbk rfl
    have y3 := block_cell (j := 3) hbk rfl
    have y4 := block_cell (j := 4) hbk rfl
    have y5 := block_cell (j := 5) hbk rfl
    have y6 := block_cell (j := 6) hbk rfl
    clear hbk
    go_simp
   simp only [Act.put, List.getElem_toArray, List.getElem_cons_zero, List.getElem_cons_succ, List.setIfInBounds_toArray, List.set_cons_zero, List.set_cons_succ]
   refine wpAnyH_all (rs := [0, 6]) (by kernel_rfl) (by simp) (fun j hj => ?_)
   rcases List.mem_cons.1 hj with rfl | hj
   ·skip
    refine Or.inl ?_
    go_wp2_with fail
    refine (host_any _).mono ?_
    rintro e x1 ⟨svt, rvt, ovt, uvt, rfl, hv, hb⟩
    obtain ⟨sah0, sch0, rfl⟩ := hv.store.vshape
    obtain ⟨⟨rah0, rch0⟩, rfl⟩ := hv.refs.shape
    obtain ⟨oah0, och0, rfl⟩ := hv.objs.vshape
    obtain ⟨⟨uah0, uch0⟩, rfl⟩ := hv.upds.shape
    have hC1 := hQn _ _ hC0 hb
    have Hh0 := Lib.hid (hv.weaken (S' := fun _ => True) fun _ _ => trivial)
    clear hv hb
    simp only [repV]
    go_simp
    refine wpAnyH_all (rs := [2, 6]) (by kernel_rfl) (by simp) (fun j hj => ?_)
    rcases List.mem_cons.1 hj with rfl | hj
    ·skip
     refine Or.inl ?_
     have HFr := Lib.hid (from_any hostR oldR _ _ _ _ _ _ _ _ _ _ x1 Hh0.out (HRo.out _ hC1))
     rw [begun_r1] at HFr
     simp only [repV] at HFr
     go_wp2_with fail
     refine HFr.out.mono ?_
     rintro e x2 ⟨svt, rvt, ovt, uvt, rfl, hv, hb⟩
     obtain ⟨sar, scr, rfl⟩ := hv.store.vshape
     obtain ⟨⟨rar, rcr⟩, rfl⟩ := hv.refs.shape
     obtain ⟨oar, ocr, rfl⟩ := hv.objs.vshape
     obtain ⟨⟨uar, ucr⟩, rfl⟩ := hv.upds.shape
     have hC2 := hQn _ _ hC1 hb
     replace Hh0 := Lib.hid (Hh0.out.below hb)
     have HvR := Lib.hid hv
     clear hv hb HFr
     simp only [repV]
     generalize hRR : fromR hostR oldR = RR at *
     go_simp
     refine wpAnyH_take (i := 3) (v := .tuple #[.agg #[.slice sar (RR).store.length scr, .slice rar (RR).refs.length rcr, .int .i64 (RR).gen, .int .i64 (RR).phase, .slice oar (RR).pend.objects.length ocr, .slice uar (RR).pend.updates.length ucr, .bool (RR).pend.force], .int .i64 0]) rfl (by kernel_rfl) (by kernel_rfl) (by kernel_rfl) (fun _ _ _ h => h) (Or.inl ⟨by rfl, fun w hSw => ?_⟩) hC2 ?_
     ·go_simp
     simp only [Act.put, List.getElem_toArray, List.getElem_cons_zero, List.getElem_cons_succ, List.setIfInBounds_toArray, List.set_cons_zero, List.set_cons_succ]
     refine wpAnyH_take (i := 4) (v := .agg #[.slice sar (RR).store.length scr, .slice rar (RR).refs.length rcr, .int .i64 (RR).gen, .int .i64 (RR).phase, .slice oar (RR).pend.objects.length ocr, .slice uar (RR).pend.updates.length ucr, .bool (RR).pend.force]) rfl (by kernel_rfl) (by kernel_rfl) (by kernel_rfl) (fun _ _ _ h => h) (Or.inl ⟨by rfl, fun w hSw => ?_⟩) hC2 ?_
     ·go_simp
     simp only [Act.put, List.getElem_toArray, List.getElem_cons_zero, List.getElem_cons_succ, List.setIfInBounds_toArray, List.set_cons_zero, List.set_cons_succ]
     refine wpAnyH_take (i := 5) (v := .int .i64 0) rfl (by kernel_rfl) (by kernel_rfl) (by kernel_rfl) (fun _ _ _ h => h) (Or.inl ⟨by rfl, fun w hSw => ?_⟩) hC2 ?_
     ·go_simp
     simp only [Act.put, List.getElem_toArray, List.getElem_cons_zero, List.getElem_cons_succ, List.setIfInBounds_toArray, List.set_cons_zero, List.set_cons_succ]
     refine wpAnyH_all (rs := [6]) (by kernel_rfl) (by simp) (fun j hj => ?_)
     obtain rfl : j = 6 := by simpa using hj
     refine Or.inl ?_
     have hC3 := hQ.alloc _ (.cells #[.slice none 0 0, .slice none 0 0, .int .i64 0, .int .i64 0, .slice none 0 0, .slice none 0 0, .bool false] 43) hC2
     go_simp
     have hbA : Below x2.heap.size x2 (x2.alloc (.cells #[.slice none 0 0, .slice none 0 0, .int .i64 0, .int .i64 0, .slice none 0 0, .slice none 0 0, .bool false] 43)) := (Below.refl _ _).alloc (Nat.le_refl _) _
     have HDb := Lib.hid (heap_alloc_new x2 (.cells #[.slice none 0 0, .slice none 0 0, .int .i64 0, .int .i64 0, .slice none 0 0, .slice none 0 0, .bool false] 43))
     have HDlt := Lib.hid (show x2.heap.size < (x2.alloc (.cells #[.slice none 0 0, .slice none 0 0, .int .i64 0, .int .i64 0, .slice none 0 0, .slice none 0 0, .bool false] 43)).heap.size by simp)
     have HDge := Lib.hid (hQb _ hC2).size
     replace HvR := Lib.hid (HvR.out.lt.weaken (S' := fun b => b ≠ x2.heap.size) fun b hb => by have := hb.2; omega)
     replace Hh0 := Lib.hid (Hh0.out.below hbA)
     replace HvR := Lib.hid (HvR.out.below hbA)
     clear hbA
     generalize x2.heap.size = D at *
     generalize x2.alloc (.cells #[.slice none 0 0, .slice none 0 0, .int .i64 0, .int .i64 0, .slice none 0 0, .slice none 0 0, .bool false] 43) = x3 at *
     refine wpAnyH_all (rs := [7]) (by kernel_rfl) (by simp) (fun j hj => ?_)
     obtain rfl : j = 7 := by simpa using hj
     refine Or.inl ?_
     have hblk := HDb.out
     have g0 := block_cell (j := 0) hblk rfl
     have g1 := block_cell (j := 1) hblk rfl
     have g2 := block_cell (j := 2) hblk rfl
     have g3 := block_cell (j := 3) hblk rfl
     have g4 := block_cell (j := 4) hblk rfl
     have g5 := block_cell (j := 5) hblk rfl
     have g6 := block_cell (j := 6) hblk rfl
     have f0 := block_free (j := 0) hblk
     have f1 := block_free (j := 1) hblk
     have f2 := block_free (j := 2) hblk
     have f3 := block_free (j := 3) hblk
     have f4 := block_free (j := 4) hblk
     have f5 := block_free (j := 5) hblk
     have f6 := block_free (j := 6) hblk
     have Hb7 := Lib.hid (set7_is (v0 := .slice sar (RR).store.length scr) (v1 := .slice rar (RR).refs.length rcr) (v2 := .int .i64 (RR).gen) (v3 := .int .i64 (RR).phase) (v4 := .slice oar (RR).pend.objects.length ocr) (v5 := .slice uar (RR).pend.updates.length ucr) (v6 := .bool (RR).pend.force) hblk)
     have Hu7 := Lib.hid (set7_upd D (.slice sar (RR).store.length scr) (.slice rar (RR).refs.length rcr) (.int .i64 (RR).gen) (.int .i64 (RR).phase) (.slice oar (RR).pend.objects.length ocr) (.slice uar (RR).pend.updates.length ucr) (.bool (RR).pend.force) x3)
     have hQ7 := HQu.out _ _ _ hC3 Hu7.out (fun b hb => by have := HDge.out; omega)
     have HB := Lib.hid (show BoxR D (set7 D (.slice sar (RR).store.length scr) (.slice rar (RR).refs.length rcr) (.int .i64 (RR).gen) (.int .i64 (RR).phase) (.slice oar (RR).pend.objects.length ocr) (.slice uar (RR).pend.updates.length ucr) (.bool (RR).pend.force) x3) RR from ⟨_, _, _, _, _, _, _, _, Hb7.out, RepIs.weaken (HvR.out.upd Hu7.out (fun b hb e => hb e)) fun _ _ => trivial⟩)
     clear HDb Hb7 HvR
     go_wp2_with fail
     refine ⟨hQ7, ?_⟩
     change wpAnyH _ _ _ _ _ _ _ _ (set7 D (.slice sar (RR).store.length scr) (.slice rar (RR).refs.length rcr) (.int .i64 (RR).gen) (.int .i64 (RR).phase) (.slice oar (RR).pend.objects.length ocr) (.slice uar (RR).pend.updates.length ucr) (.bool (RR).pend.force) x3)
     generalize set7 D (.slice sar (RR).store.length scr) (.slice rar (RR).refs.length rcr) (.int .i64 (RR).gen) (.int .i64 (RR).phase) (.slice oar (RR).pend.objects.length ocr) (.slice uar (RR).pend.updates.length ucr) (.bool (RR).pend.force) x3 = w7 at *
     clear g0 g1 g2 g3 g4 g5 g6 f0 f1 f2 f3 f4 f5 f6 hblk Hu7
     refine wpAnyH_all (rs := [8]) (by kernel_rfl) (by simp) (fun j hj => ?_)
     obtain rfl : j = 8 := by simpa using hj
     refine Or.inl ?_
     go_wp2_with fail
     first | refine ⟨hQ7, ?_⟩ | skip
     first | refine ⟨by kernel_rfl, ?_⟩ | refine wpAnyH_done (by kernel_rfl) ?_ _
     have HB2 := Lib.hid (hQb _ hQ7)
     subst hRR
     go_wp2_with fail
     go_meet
     exact ⟨_, rfl, rfl, _, rfl, HK1.out.1.below HB2.out, HB.out, below_next HK1.out.2 HB2.out⟩
    ·skip
     obtain rfl : j = 6 := by simpa using hj
     refine Or.inl ?_
     have hC2 := hQ.alloc _ (.cells #[.slice none 0 0, .slice none 0 0, .int .i64 0, .int .i64 0, .slice none 0 0, .slice none 0 0, .bool false] 43) hC1
     go_simp
     have hbA : Below x1.heap.size x1 (x1.alloc (.cells #[.slice none 0 0, .slice none 0 0, .int .i64 0, .int .i64 0, .slice none 0 0, .slice none 0 0, .bool false] 43)) := (Below.refl _ _).alloc (Nat.le_refl _) _
     have HDb := Lib.hid (heap_alloc_new x1 (.cells #[.slice none 0 0, .slice none 0 0, .int .i64 0, .int .i64 0, .slice none 0 0, .slice none 0 0, .bool false] 43))
     have HDlt := Lib.hid (show x1.heap.size < (x1.alloc (.cells #[.slice none 0 0, .slice none 0 0, .int .i64 0, .int .i64 0, .slice none 0 0, .slice none 0 0, .bool false] 43)).heap.size by simp)
     have HDge := Lib.hid (hQb _ hC1).size
     replace Hh0 := Lib.hid (Hh0.out.below hbA)
     clear hbA
     generalize x1.heap.size = D at *
     generalize x1.alloc (.cells #[.slice none 0 0, .slice none 0 0, .int .i64 0, .int .i64 0, .slice none 0 0, .slice none 0 0, .bool false] 43) = x2 at *
     refine wpAnyH_all (rs := [2]) (by kernel_rfl) (by simp) (fun j hj => ?_)
     obtain rfl : j = 2 := by simpa using hj
     refine Or.inl ?_
     have HDl := Lib.hid (show D < x2.heap.size from lt_of_block HDb.out)
     have HFr := Lib.hid (from_any hostR oldR _ _ _ _ _ _ _ _ _ _ x2 Hh0.out (HRo.out _ hC2))
     rw [begun_r1] at HFr
     simp only [repV] at HFr
     go_wp2_with fail
     refine HFr.out.mono ?_
     rintro e x3 ⟨svt, rvt, ovt, uvt, rfl, hv, hb⟩
     obtain ⟨sar, scr, rfl⟩ := hv.store.vshape
     obtain ⟨⟨rar, rcr⟩, rfl⟩ := hv.refs.shape
     obtain ⟨oar, ocr, rfl⟩ := hv.objs.vshape
     obtain ⟨⟨uar, ucr⟩, rfl⟩ := hv.upds.shape
     have hC3 := hQn _ _ hC2 hb
     replace Hh0 := Lib.hid (Hh0.out.below hb)
     replace HDb := Lib.hid (blk_below HDb.out hb)
     have HvR := Lib.hid (hv.weaken (S' := fun b => b ≠ D) fun b hb2 => by have := HDl.out; omega)
     clear HDl
     clear hv hb HFr
     simp only [repV]
     generalize hRR : fromR hostR oldR = RR at *
     go_simp
     refine wpAnyH_take (i := 3) (v := .tuple #[.agg #[.slice sar (RR).store.length scr, .slice rar (RR).refs.length rcr, .int .i64 (RR).gen, .int .i64 (RR).phase, .slice oar (RR).pend.objects.length ocr, .slice uar (RR).pend.updates.length ucr, .bool (RR).pend.force], .int .i64 0]) rfl (by kernel_rfl) (by kernel_rfl) (by kernel_rfl) (fun _ _ _ h => h) (Or.inl ⟨by rfl, fun w hSw => ?_⟩) hC3 ?_
     ·go_simp
     simp only [Act.put, List.getElem_toArray, List.getElem_cons_zero, List.getElem_cons_succ, List.setIfInBounds_toArray, List.set_cons_zero, List.set_cons_succ]
     refine wpAnyH_take (i := 4) (v := .agg #[.slice sar (RR).store.length scr, .slice rar (RR).refs.length rcr, .int .i64 (RR).gen, .int .i64 (RR).phase, .slice oar (RR).pend.objects.length ocr, .slice uar (RR).pend.updates.length ucr, .bool (RR).pend.force]) rfl (by kernel_rfl) (by kernel_rfl) (by kernel_rfl) (fun _ _ _ h => h) (Or.inl ⟨by rfl, fun w hSw => ?_⟩) hC3 ?_
     ·go_simp
     simp only [Act.put, List.getElem_toArray, List.getElem_cons_zero, List.getElem_cons_succ, List.setIfInBounds_toArray, List.set_cons_zero, List.set_cons_succ]
     refine wpAnyH_take (i := 5) (v := .int .i64 0) rfl (by kernel_rfl) (by kernel_rfl) (by kernel_rfl) (fun _ _ _ h => h) (Or.inl ⟨by rfl, fun w hSw => ?_⟩) hC3 ?_
     ·go_simp
     simp only [Act.put, List.getElem_toArray, List.getElem_cons_zero, List.getElem_cons_succ, List.setIfInBounds_toArray, List.set_cons_zero, List.set_cons_succ]
     refine wpAnyH_all (rs := [7]) (by kernel_rfl) (by simp) (fun j hj => ?_)
     obtain rfl : j = 7 := by simpa using hj
     refine Or.inl ?_
     have hblk := HDb.out
     have g0 := block_cell (j := 0) hblk rfl
     have g1 := block_cell (j := 1) hblk rfl
     have g2 := block_cell (j := 2) hblk rfl
     have g3 := block_cell (j := 3) hblk rfl
     have g4 := block_cell (j := 4) hblk rfl
     have g5 := block_cell (j := 5) hblk rfl
     have g6 := block_cell (j := 6) hblk rfl
     have f0 := block_free (j := 0) hblk
     have f1 := block_free (j := 1) hblk
     have f2 := block_free (j := 2) hblk
     have f3 := block_free (j := 3) hblk
     have f4 := block_free (j := 4) hblk
     have f5 := block_free (j := 5) hblk
     have f6 := block_free (j := 6) hblk
     have Hb7 := Lib.hid (set7_is (v0 := .slice sar (RR).store.length scr) (v1 := .slice rar (RR).refs.length rcr) (v2 := .int .i64 (RR).gen) (v3 := .int .i64 (RR).phase) (v4 := .slice oar (RR).pend.objects.length ocr) (v5 := .slice uar (RR).pend.updates.length ucr) (v6 := .bool (RR).pend.force) hblk)
     have Hu7 := Lib.hid (set7_upd D (.slice sar (RR).store.length scr) (.slice rar (RR).refs.length rcr) (.int .i64 (RR).gen) (.int .i64 (RR).phase) (.slice oar (RR).pend.objects.length ocr) (.slice uar (RR).pend.updates.length ucr) (.bool (RR).pend.force) x3)
     have hQ7 := HQu.out _ _ _ hC3 Hu7.out (fun b hb => by have := HDge.out; omega)
     have HB := Lib.hid (show BoxR D (set7 D (.slice sar (RR).store.length scr) (.slice rar (RR).refs.length rcr) (.int .i64 (RR).gen) (.int .i64 (RR).phase) (.slice oar (RR).pend.objects.length ocr) (.slice uar (RR).pend.updates.length ucr) (.bool (RR).pend.force) x3) RR from ⟨_, _, _, _, _, _, _, _, Hb7.out, RepIs.weaken (HvR.out.upd Hu7.out (fun b hb e => hb e)) fun _ _ => trivial⟩)
     clear HDb Hb7 HvR
     go_wp2_with fail
     refine ⟨hQ7, ?_⟩
     change wpAnyH _ _ _ _ _ _ _ _ (set7 D (.slice sar (RR).store.length scr) (.slice rar (RR).refs.length rcr) (.int .i64 (RR).gen) (.int .i64 (RR).phase) (.slice oar (RR).pend.objects.length ocr) (.slice uar (RR).pend.updates.length ucr) (.bool (RR).pend.force) x3)
     generalize set7 D (.slice sar (RR).store.length scr) (.slice rar (RR).refs.length rcr) (.int .i64 (RR).gen) (.int .i64 (RR).phase) (.slice oar (RR).pend.objects.length ocr) (.slice uar (RR).pend.updates.length ucr) (.bool (RR).pend.force) x3 = w7 at *
     clear g0 g1 g2 g3 g4 g5 g6 f0 f1 f2 f3 f4 f5 f6 hblk Hu7
     refine wpAnyH_all (rs := [8]) (by kernel_rfl) (by simp) (fun j hj => ?_)
     obtain rfl : j = 8 := by simpa using hj
     refine Or.inl ?_
     go_wp2_with fail
     first | refine ⟨hQ7, ?_⟩ | skip
     first | refine ⟨by kernel_rfl, ?_⟩ | refine wpAnyH_done (by kernel_rfl) ?_ _
     have HB2 := Lib.hid (hQb _ hQ7)
     subst hRR
     go_wp2_with fail
     go_meet
     exact ⟨_, rfl, rfl, _, rfl, HK1.out.1.below HB2.out, HB.out, below_next HK1.out.2 HB2.out⟩
   ·skip
    obtain rfl : j = 6 := by simpa using hj
    refine Or.inl ?_
    have hC1 := hQ.alloc _ (.cells #[.slice none 0 0, .slice none 0 0, .int .i64 0, .int .i64 0, .slice none 0 0, .slice none 0 0, .bool false] 43) hC0
    go_simp
    have hbA : Below x0.heap.size x0 (x0.alloc (.cells #[.slice none 0 0, .slice none 0 0, .int .i64 0, .int .i64 0, .slice none 0 0, .slice none 0 0, .bool false] 43)) := (Below.refl _ _).alloc (Nat.le_refl _) _
    have HDb := Lib.hid (heap_alloc_new x0 (.cells #[.slice none 0 0, .slice none 0 0, .int .i64 0, .int .i64 0, .slice none 0 0, .slice none 0 0, .bool false] 43))
    have HDlt := Lib.hid (show x0.heap.size < (x0.alloc (.cells #[.slice none 0 0, .slice none 0 0, .int .i64 0, .int .i64 0, .slice none 0 0, .slice none 0 0, .bool false] 43)).heap.size by simp)
    have HDge := Lib.hid (hQb _ hC0).size
    clear hbA
    generalize x0.heap.size = D at *
    generalize x0.alloc (.cells #[.slice none 0 0, .slice none 0 0, .int .i64 0, .int .i64 0, .slice none 0 0, .slice none 0 0, .bool false] 43) = x1 at *
    refine wpAnyH_all (rs := [0]) (by kernel_rfl) (by simp) (fun j hj => ?_)
    obtain rfl : j = 0 := by simpa using hj
    refine Or.inl ?_
    go_wp2_with fail
    refine (host_any _).mono ?_
    rintro e x2 ⟨svt, rvt, ovt, uvt, rfl, hv, hb⟩
    obtain ⟨sah0, sch0, rfl⟩ := hv.store.vshape
    obtain ⟨⟨rah0, rch0⟩, rfl⟩ := hv.refs.shape
    obtain ⟨oah0, och0, rfl⟩ := hv.objs.vshape
    obtain ⟨⟨uah0, uch0⟩, rfl⟩ := hv.upds.shape
    have hC2 := hQn _ _ hC1 hb
    replace HDb := Lib.hid (blk_below HDb.out hb)
    have Hh0 := Lib.hid (hv.weaken (S' := fun _ => True) fun _ _ => trivial)
    clear hv hb
    simp only [repV]
    go_simp
    refine wpAnyH_all (rs := [2]) (by kernel_rfl) (by simp) (fun j hj => ?_)
    obtain rfl : j = 2 := by simpa using hj
    refine Or.inl ?_
    have HDl := Lib.hid (show D < x2.heap.size from lt_of_block HDb.out)
    have HFr := Lib.hid (from_any hostR oldR _ _ _ _ _ _ _ _ _ _ x2 Hh0.out (HRo.out _ hC2))
    rw [begun_r1] at HFr
    simp only [repV] at HFr
    go_wp2_with fail
    refine HFr.out.mono ?_
    rintro e x3 ⟨svt, rvt, ovt, uvt, rfl, hv, hb⟩
    obtain ⟨sar, scr, rfl⟩ := hv.store.vshape
    obtain ⟨⟨rar, rcr⟩, rfl⟩ := hv.refs.shape
    obtain ⟨oar, ocr, rfl⟩ := hv.objs.vshape
    obtain ⟨⟨uar, ucr⟩, rfl⟩ := hv.upds.shape
    have hC3 := hQn _ _ hC2 hb
    replace HDb := Lib.hid (blk_below HDb.out hb)
    replace Hh0 := Lib.hid (Hh0.out.below hb)
    have HvR := Lib.hid (hv.weaken (S' := fun b => b ≠ D) fun b hb2 => by have := HDl.out; omega)
    clear HDl
    clear hv hb HFr
    simp only [repV]
    generalize hRR : fromR hostR oldR = RR at *
    go_simp
    refine wpAnyH_take (i := 3) (v := .tuple #[.agg #[.slice sar (RR).store.length scr, .slice rar (RR).refs.length rcr, .int .i64 (RR).gen, .int .i64 (RR).phase, .slice oar (RR).pend.objects.length ocr, .slice uar (RR).pend.updates.length ucr, .bool (RR).pend.force], .int .i64 0]) rfl (by kernel_rfl) (by kernel_rfl) (by kernel_rfl) (fun _ _ _ h => h) (Or.inl ⟨by rfl, fun w hSw => ?_⟩) hC3 ?_
    ·go_simp
    simp only [Act.put, List.getElem_toArray, List.getElem_cons_zero, List.getElem_cons_succ, List.setIfInBounds_toArray, List.set_cons_zero, List.set_cons_succ]
    refine wpAnyH_take (i := 4) (v := .agg #[.slice sar (RR).store.length scr, .slice rar (RR).refs.length rcr, .int .i64 (RR).gen, .int .i64 (RR).phase, .slice oar (RR).pend.objects.length ocr, .slice uar (RR).pend.updates.length ucr, .bool (RR).pend.force]) rfl (by kernel_rfl) (by kernel_rfl) (by kernel_rfl) (fun _ _ _ h => h) (Or.inl ⟨by rfl, fun w hSw => ?_⟩) hC3 ?_
    ·go_simp
    simp only [Act.put, List.getElem_toArray, List.getElem_cons_zero, List.getElem_cons_succ, List.setIfInBounds_toArray, List.set_cons_zero, List.set_cons_succ]
    refine wpAnyH_take (i := 5) (v := .int .i64 0) rfl (by kernel_rfl) (by kernel_rfl) (by kernel_rfl) (fun _ _ _ h => h) (Or.inl ⟨by rfl, fun w hSw => ?_⟩) hC3 ?_
    ·go_simp
    simp only [Act.put, List.getElem_toArray, List.getElem_cons_zero, List.getElem_cons_succ, List.setIfInBounds_toArray, List.set_cons_zero, List.set_cons_succ]
    refine wpAnyH_all (rs := [7]) (by kernel_rfl) (by simp) (fun j hj => ?_)
    obtain rfl : j = 7 := by simpa using hj
    refine Or.inl ?_
    have hblk := HDb.out
    have g0 := block_cell (j := 0) hblk rfl
    have g1 := block_cell (j := 1) hblk rfl
    have g2 := block_cell (j := 2) hblk rfl
    have g3 := block_cell (j := 3) hblk rfl
    have g4 := block_cell (j := 4) hblk rfl
    have g5 := block_cell (j := 5) hblk rfl
    have g6 := block_cell (j := 6) hblk rfl
    have f0 := block_free (j := 0) hblk
    have f1 := block_free (j := 1) hblk
    have f2 := block_free (j := 2) hblk
    have f3 := block_free (j := 3) hblk
    have f4 := block_free (j := 4) hblk
    have f5 := block_free (j := 5) hblk
    have f6 := block_free (j := 6) hblk
    have Hb7 := Lib.hid (set7_is (v0 := .slice sar (RR).store.length scr) (v1 := .slice rar (RR).refs.length rcr) (v2 := .int .i64 (RR).gen) (v3 := .int .i64 (RR).phase) (v4 := .slice oar (RR).pend.objects.length ocr) (v5 := .slice uar (RR).pend.updates.length ucr) (v6 := .bool (RR).pend.force) hblk)
    have Hu7 := Lib.hid (set7_upd D (.slice sar (RR).store.length scr) (.slice rar (RR).refs.length rcr) (.int .i64 (RR).gen) (.int .i64 (RR).phase) (.slice oar (RR).pend.objects.length ocr) (.slice uar (RR).pend.updates.length ucr) (.bool (RR).pend.force) x3)
    have hQ7 := HQu.out _ _ _ hC3 Hu7.out (fun b hb => by have := HDge.out; omega)
    have HB := Lib.hid (show BoxR D (set7 D (.slice sar (RR).store.length scr) (.slice rar (RR).refs.length rcr) (.int .i64 (RR).gen) (.int .i64 (RR).phase) (.slice oar (RR).pend.objects.length ocr) (.slice uar (RR).pend.updates.length ucr) (.bool (RR).pend.force) x3) RR from ⟨_, _, _, _, _, _, _, _, Hb7.out, RepIs.weaken (HvR.out.upd Hu7.out (fun b hb e => hb e)) fun _ _ => trivial⟩)
    clear HDb Hb7 HvR
    go_wp2_with fail
    refine ⟨hQ7, ?_⟩
    change wpAnyH _ _ _ _ _ _ _ _ (set7 D (.slice sar (RR).store.length scr) (.slice rar (RR).refs.length rcr) (.int .i64 (RR).gen) (.int .i64 (RR).phase) (.slice oar (RR).pend.objects.length ocr) (.slice uar (RR).pend.updates.length ucr) (.bool (RR).pend.force) x3)
    generalize set7 D (.slice sar (RR).store.length scr) (.slice rar (RR).refs.length rcr) (.int .i64 (RR).gen) (.int .i64 (RR).phase) (.slice oar (RR).pend.objects.length ocr) (.slice uar (RR).pend.updates.length ucr) (.bool (RR).pend.force) x3 = w7 at *
    clear g0 g1 g2 g3 g4 g5 g6 f0 f1 f2 f3 f4 f5 f6 hblk Hu7
    refine wpAnyH_all (rs := [8]) (by kernel_rfl) (by simp) (fun j hj => ?_)
    obtain rfl : j = 8 := by simpa using hj
    refine Or.inl ?_
    go_wp2_with fail
    first | refine ⟨hQ7, ?_⟩ | skip
    first | refine ⟨by kernel_rfl, ?_⟩ | refine wpAnyH_done (by kernel_rfl) ?_ _
    have HB2 := Lib.hid (hQb _ hQ7)
    subst hRR
    go_wp2_with fail
    go_meet
    exact ⟨_, rfl, rfl, _, rfl, HK1.out.1.below HB2.out, HB.out, below_next HK1.out.2 HB2.out⟩
  case rest =>
   obtain ⟨D2, rfl, rfl, y2, rfl, HK2⟩ := hcut
   clear HK1
   go_upto_region 3 with fail
   go_cut [4, 5] (fun s4 s5 wx => (∃ D3, s4 = .pointer (some ⟨D3, 0, none⟩)) ∧ s5 = .int .i64 4 ∧ ∃ y, y = wx ∧ Hid (BoxR D1 y oldR ∧ BoxR D2 y (fromR hostR oldR) ∧ Below w.heap.size w y))
   case first =>
    obtain ⟨sa1, sc1, ra1, rc1, oa1, oc1, ua1, uc1, hbk1, hr1⟩ := HK2.out.1
    have hD1 := lt_of_block hbk1
    obtain ⟨Q, hQ, hQ1, hQu⟩ := cls_new y2
    have hQb := hQ.below
    have hQn := hQ.next
    have HQu := Lib.hid hQu
    clear hQu
    have HBk := Lib.hid (fun x (hx : In Q x) => show x.heap[D1]? = some (.cells #[.slice sa1 (oldR).store.length sc1, .slice ra1 (oldR).refs.length rc1, .int .i64 (oldR).gen, .int .i64 (oldR).phase, .slice oa1 (oldR).pend.objects.length oc1, .slice ua1 (oldR).pend.updates.length uc1, .bool (oldR).pend.force] 43 (0, 0)) from blk_below hbk1 (hQb _ hx))
    have HRo := Lib.hid (fun x (hx : In Q x) => hr1.below (hQb _ hx))
    clear hbk1 hr1
    refine wp_region_held (S := In Q) (by kernel_rfl) ?_
    change wpAnyH _ _ _ _ _ _ _ _ (World.drew _)
    have hC0 := hQ.drew _ hQ1
    generalize y2.drew = x0 at hC0 ⊢
    refine wpAnyH_take (i := 0) (v := .agg #[.slice sa1 (oldR).store.length sc1, .slice ra1 (oldR).refs.length rc1, .int .i64 (oldR).gen, .int .i64 (oldR).phase, .slice oa1 (oldR).pend.objects.length oc1, .slice ua1 (oldR).pend.updates.length uc1, .bool (oldR).pend.force]) rfl (by kernel_rfl) (by kernel_rfl) (by kernel_rfl) (fun _ _ _ h => h) (Or.inl ⟨by rfl, fun w hSw => ?_⟩) hC0 ?_
    ·have hbk := HBk.out _ hSw
     have y0 := block_cell (j := 0) hbk rfl
     have y1 := block_cell (j := 1) hbk rfl
     have y2 := block_cell (j := 2) hbk rfl
     have y3 := block_cell (j := 3) hbk rfl
     have y4 := block_cell (j := 4) hbk rfl
     have y5 := block_cell (j := 5) hbk rfl
     have y6 := block_cell (j := 6) hbk rfl
     clear hbk
     go_simp
    simp only [Act.put, List.getElem_toArray, List.getElem_cons_zero, List.getElem_cons_succ, List.setIfInBounds_toArray, List.set_cons_zero, List.set_cons_succ]
    refine wpAnyH_all (rs := [1, 6]) (by kernel_rfl) (by simp) (fun j hj => ?_)
    rcases List.mem_cons.1 hj with rfl | hj
    ·skip
     refine Or.inl ?_
     go_wp2_with fail
     refine (host_any _).mono ?_
     rintro e x1 ⟨svt, rvt, ovt, uvt, rfl, hv, hb⟩
     obtain ⟨sah0, sch0, rfl⟩ := hv.store.vshape
     obtain ⟨⟨rah0, rch0⟩, rfl⟩ := hv.refs.shape
     obtain ⟨oah0, och0, rfl⟩ := hv.objs.vshape
     obtain ⟨⟨uah0, uch0⟩, rfl⟩ := hv.upds.shape
     have hC1 := hQn _ _ hC0 hb
     have Hh0 := Lib.hid (hv.weaken (S' := fun _ => True) fun _ _ => trivial)
     clear hv hb
     simp only [repV]
     go_simp
     refine wpAnyH_all (rs := [2, 6]) (by kernel_rfl) (by simp) (fun j hj => ?_)
     rcases List.mem_cons.1 hj with rfl | hj
     ·skip
      refine Or.inl ?_
      have HFr := Lib.hid (from_any oldR hostR _ _ _ _ _ _ _ _ _ _ x1 (HRo.out _ hC1) Hh0.out)
      rw [begun_r2] at HFr
      simp only [repV] at HFr
      go_wp2_with fail
      refine HFr.out.mono ?_
      rintro e x2 ⟨svt, rvt, ovt, uvt, rfl, hv, hb⟩
      obtain ⟨sar, scr, rfl⟩ := hv.store.vshape
      obtain ⟨⟨rar, rcr⟩, rfl⟩ := hv.refs.shape
      obtain ⟨oar, ocr, rfl⟩ := hv.objs.vshape
      obtain ⟨⟨uar, ucr⟩, rfl⟩ := hv.upds.shape
      have hC2 := hQn _ _ hC1 hb
      replace Hh0 := Lib.hid (Hh0.out.below hb)
      have HvR := Lib.hid hv
      clear hv hb HFr
      simp only [repV]
      generalize hRR : fromR oldR hostR = RR at *
      go_simp
      refine wpAnyH_take (i := 3) (v := .tuple #[.agg #[.slice sar (RR).store.length scr, .slice rar (RR).refs.length rcr, .int .i64 (RR).gen, .int .i64 (RR).phase, .slice oar (RR).pend.objects.length ocr, .slice uar (RR).pend.updates.length ucr, .bool (RR).pend.force], .int .i64 4]) rfl (by kernel_rfl) (by kernel_rfl) (by kernel_rfl) (fun _ _ _ h => h) (Or.inl ⟨by rfl, fun w hSw => ?_⟩) hC2 ?_
      ·go_simp
      simp only [Act.put, List.getElem_toArray, List.getElem_cons_zero, List.getElem_cons_succ, List.setIfInBounds_toArray, List.set_cons_zero, List.set_cons_succ]
      refine wpAnyH_take (i := 4) (v := .agg #[.slice sar (RR).store.length scr, .slice rar (RR).refs.length rcr, .int .i64 (RR).gen, .int .i64 (RR).phase, .slice oar (RR).pend.objects.length ocr, .slice uar (RR).pend.updates.length ucr, .bool (RR).pend.force]) rfl (by kernel_rfl) (by kernel_rfl) (by kernel_rfl) (fun _ _ _ h => h) (Or.inl ⟨by rfl, fun w hSw => ?_⟩) hC2 ?_
      ·go_simp
      simp only [Act.put, List.getElem_toArray, List.getElem_cons_zero, List.getElem_cons_succ, List.setIfInBounds_toArray, List.set_cons_zero, List.set_cons_succ]
      refine wpAnyH_take (i := 5) (v := .int .i64 4) rfl (by kernel_rfl) (by kernel_rfl) (by kernel_rfl) (fun _ _ _ h => h) (Or.inl ⟨by rfl, fun w hSw => ?_⟩) hC2 ?_
      ·go_simp
      simp only [Act.put, List.getElem_toArray, List.getElem_cons_zero, List.getElem_cons_succ, List.setIfInBounds_toArray, List.set_cons_zero, List.set_cons_succ]
      refine wpAnyH_all (rs := [6]) (by kernel_rfl) (by simp) (fun j hj => ?_)
      obtain rfl : j = 6 := by simpa using hj
      refine Or.inl ?_
      have hC3 := hQ.alloc _ (.cells #[.slice none 0 0, .slice none 0 0, .int .i64 0, .int .i64 0, .slice none 0 0, .slice none 0 0, .bool false] 43) hC2
      go_simp
      have hbA : Below x2.heap.size x2 (x2.alloc (.cells #[.slice none 0 0, .slice none 0 0, .int .i64 0, .int .i64 0, .slice none 0 0, .slice none 0 0, .bool false] 43)) := (Below.refl _ _).alloc (Nat.le_refl _) _
      have HDb := Lib.hid (heap_alloc_new x2 (.cells #[.slice none 0 0, .slice none 0 0, .int .i64 0, .int .i64 0, .slice none 0 0, .slice none 0 0, .bool false] 43))
      have HDlt := Lib.hid (show x2.heap.size < (x2.alloc (.cells #[.slice none 0 0, .slice none 0 0, .int .i64 0, .int .i64 0, .slice none 0 0, .slice none 0 0, .bool false] 43)).heap.size by simp)
      have HDge := Lib.hid (hQb _ hC2).size
      replace HvR := Lib.hid (HvR.out.lt.weaken (S' := fun b => b ≠ x2.heap.size) fun b hb => by have := hb.2; omega)
      replace Hh0 := Lib.hid (Hh0.out.below hbA)
      replace HvR := Lib.hid (HvR.out.below hbA)
      clear hbA
      generalize x2.heap.size = D at *
      generalize x2.alloc (.cells #[.slice none 0 0, .slice none 0 0, .int .i64 0, .int .i64 0, .slice none 0 0, .slice none 0 0, .bool false] 43) = x3 at *
      refine wpAnyH_all (rs := [7]) (by kernel_rfl) (by simp) (fun j hj => ?_)
      obtain rfl : j = 7 := by simpa using hj
      refine Or.inl ?_
      have hblk := HDb.out
      have g0 := block_cell (j := 0) hblk rfl
      have g1 := block_cell (j := 1) hblk rfl
      have g2 := block_cell (j := 2) hblk rfl
      have g3 := block_cell (j := 3) hblk rfl
      have g4 := block_cell (j := 4) hblk rfl
      have g5 := block_cell (j := 5) hblk rfl
      have g6 := block_cell (j := 6) hblk rfl
      have f0 := block_free (j := 0) hblk
      have f1 := block_free (j := 1) hblk
      have f2 := block_free (j := 2) hblk
      have f3 := block_free (j := 3) hblk
      have f4 := block_free (j := 4) hblk
      have f5 := block_free (j := 5) hblk
      have f6 := block_free (j := 6) hblk
      have Hb7 := Lib.hid (set7_is (v0 := .slice sar (RR).store.length scr) (v1 := .slice rar (RR).refs.length rcr) (v2 := .int .i64 (RR).gen) (v3 := .int .i64 (RR).phase) (v4 := .slice oar (RR).pend.objects.length ocr) (v5 := .slice uar (RR).pend.updates.length ucr) (v6 := .bool (RR).pend.force) hblk)
      have Hu7 := Lib.hid (set7_upd D (.slice sar (RR).store.length scr) (.slice rar (RR).refs.length rcr) (.int .i64 (RR).gen) (.int .i64 (RR).phase) (.slice oar (RR).pend.objects.length ocr) (.slice uar (RR).pend.updates.length ucr) (.bool (RR).pend.force) x3)
      have hQ7 := HQu.out _ _ _ hC3 Hu7.out (fun b hb => by have := HDge.out; omega)
      have HB := Lib.hid (show BoxR D (set7 D (.slice sar (RR).store.length scr) (.slice rar (RR).refs.length rcr) (.int .i64 (RR).gen) (.int .i64 (RR).phase) (.slice oar (RR).pend.objects.length ocr) (.slice uar (RR).pend.updates.length ucr) (.bool (RR).pend.force) x3) RR from ⟨_, _, _, _, _, _, _, _, Hb7.out, RepIs.weaken (HvR.out.upd Hu7.out (fun b hb e => hb e)) fun _ _ => trivial⟩)
      clear HDb Hb7 HvR
      go_wp2_with fail
      refine ⟨hQ7, ?_⟩
      change wpAnyH _ _ _ _ _ _ _ _ (set7 D (.slice sar (RR).store.length scr) (.slice rar (RR).refs.length rcr) (.int .i64 (RR).gen) (.int .i64 (RR).phase) (.slice oar (RR).pend.objects.length ocr) (.slice uar (RR).pend.updates.length ucr) (.bool (RR).pend.force) x3)
      generalize set7 D (.slice sar (RR).store.length scr) (.slice rar (RR).refs.length rcr) (.int .i64 (RR).gen) (.int .i64 (RR).phase) (.slice oar (RR).pend.objects.length ocr) (.slice uar (RR).pend.updates.length ucr) (.bool (RR).pend.force) x3 = w7 at *
      clear g0 g1 g2 g3 g4 g5 g6 f0 f1 f2 f3 f4 f5 f6 hblk Hu7
      refine wpAnyH_all (rs := [8]) (by kernel_rfl) (by simp) (fun j hj => ?_)
      obtain rfl : j = 8 := by simpa using hj
      refine Or.inl ?_
      go_wp2_with fail
      first | refine ⟨hQ7, ?_⟩ | skip
      first | refine ⟨by kernel_rfl, ?_⟩ | refine wpAnyH_done (by kernel_rfl) ?_ _
      have HB2 := Lib.hid (hQb _ hQ7)
      subst hRR
      go_wp2_with fail
      go_meet
      exact ⟨⟨_, rfl⟩, rfl, _, rfl, HK2.out.1.below HB2.out, HK2.out.2.1.below HB2.out, below_next HK2.out.2.2 HB2.out⟩
     ·skip
      obtain rfl : j = 6 := by simpa using hj
      refine Or.inl ?_
      have hC2 := hQ.alloc _ (.cells #[.slice none 0 0, .slice none 0 0, .int .i64 0, .int .i64 0, .slice none 0 0, .slice none 0 0, .bool false] 43) hC1
      go_simp
      have hbA : Below x1.heap.size x1 (x1.alloc (.cells #[.slice none 0 0, .slice none 0 0, .int .i64 0, .int .i64 0, .slice none 0 0, .slice none 0 0, .bool false] 43)) := (Below.refl _ _).alloc (Nat.le_refl _) _
      have HDb := Lib.hid (heap_alloc_new x1 (.cells #[.slice none 0 0, .slice none 0 0, .int .i64 0, .int .i64 0, .slice none 0 0, .slice none 0 0, .bool false] 43))
      have HDlt := Lib.hid (show x1.heap.size < (x1.alloc (.cells #[.slice none 0 0, .slice none 0 0, .int .i64 0, .int .i64 0, .slice none 0 0, .slice none 0 0, .bool false] 43)).heap.size by simp)
      have HDge := Lib.hid (hQb _ hC1).size
      replace Hh0 := Lib.hid (Hh0.out.below hbA)
      clear hbA
      generalize x1.heap.size = D at *
      generalize x1.alloc (.cells #[.slice none 0 0, .slice none 0 0, .int .i64 0, .int .i64 0, .slice none 0 0, .slice none 0 0, .bool false] 43) = x2 at *
      refine wpAnyH_all (rs := [2]) (by kernel_rfl) (by simp) (fun j hj => ?_)
      obtain rfl : j = 2 := by simpa using hj
      refine Or.inl ?_
      have HDl := Lib.hid (show D < x2.heap.size from lt_of_block HDb.out)
      have HFr := Lib.hid (from_any oldR hostR _ _ _ _ _ _ _ _ _ _ x2 (HRo.out _ hC2) Hh0.out)
      rw [begun_r2] at HFr
      simp only [repV] at HFr
      go_wp2_with fail
      refine HFr.out.mono ?_
      rintro e x3 ⟨svt, rvt, ovt, uvt, rfl, hv, hb⟩
      obtain ⟨sar, scr, rfl⟩ := hv.store.vshape
      obtain ⟨⟨rar, rcr⟩, rfl⟩ := hv.refs.shape
      obtain ⟨oar, ocr, rfl⟩ := hv.objs.vshape
      obtain ⟨⟨uar, ucr⟩, rfl⟩ := hv.upds.shape
      have hC3 := hQn _ _ hC2 hb
      replace Hh0 := Lib.hid (Hh0.out.below hb)
      replace HDb := Lib.hid (blk_below HDb.out hb)
      have HvR := Lib.hid (hv.weaken (S' := fun b => b ≠ D) fun b hb2 => by have := HDl.out; omega)
      clear HDl
      clear hv hb HFr
      simp only [repV]
      generalize hRR : fromR oldR hostR = RR at *
      go_simp
      refine wpAnyH_take (i := 3) (v := .tuple #[.agg #[.slice sar (RR).store.length scr, .slice rar (RR).refs.length rcr, .int .i64 (RR).gen, .int .i64 (RR).phase, .slice oar (RR).pend.objects.length ocr, .slice uar (RR).pend.updates.length ucr, .bool (RR).pend.force], .int .i64 4]) rfl (by kernel_rfl) (by kernel_rfl) (by kernel_rfl) (fun _ _ _ h => h) (Or.inl ⟨by rfl, fun w hSw => ?_⟩) hC3 ?_
      ·go_simp
      simp only [Act.put, List.getElem_toArray, List.getElem_cons_zero, List.getElem_cons_succ, List.setIfInBounds_toArray, List.set_cons_zero, List.set_cons_succ]
      refine wpAnyH_take (i := 4) (v := .agg #[.slice sar (RR).store.length scr, .slice rar (RR).refs.length rcr, .int .i64 (RR).gen, .int .i64 (RR).phase, .slice oar (RR).pend.objects.length ocr, .slice uar (RR).pend.updates.length ucr, .bool (RR).pend.force]) rfl (by kernel_rfl) (by kernel_rfl) (by kernel_rfl) (fun _ _ _ h => h) (Or.inl ⟨by rfl, fun w hSw => ?_⟩) hC3 ?_
      ·go_simp
      simp only [Act.put, List.getElem_toArray, List.getElem_cons_zero, List.getElem_cons_succ, List.setIfInBounds_toArray, List.set_cons_zero, List.set_cons_succ]
      refine wpAnyH_take (i := 5) (v := .int .i64 4) rfl (by kernel_rfl) (by kernel_rfl) (by kernel_rfl) (fun _ _ _ h => h) (Or.inl ⟨by rfl, fun w hSw => ?_⟩) hC3 ?_
      ·go_simp
      simp only [Act.put, List.getElem_toArray, List.getElem_cons_zero, List.getElem_cons_succ, List.setIfInBounds_toArray, List.set_cons_zero, List.set_cons_succ]
      refine wpAnyH_all (rs := [7]) (by kernel_rfl) (by simp) (fun j hj => ?_)
      obtain rfl : j = 7 := by simpa using hj
      refine Or.inl ?_
      have hblk := HDb.out
      have g0 := block_cell (j := 0) hblk rfl
      have g1 := block_cell (j := 1) hblk rfl
      have g2 := block_cell (j := 2) hblk rfl
      have g3 := block_cell (j := 3) hblk rfl
      have g4 := block_cell (j := 4) hblk rfl
      have g5 := block_cell (j := 5) hblk rfl
      have g6 := block_cell (j := 6) hblk rfl
      have f0 := block_free (j := 0) hblk
      have f1 := block_free (j := 1) hblk
      have f2 := block_free (j := 2) hblk
      have f3 := block_free (j := 3) hblk
      have f4 := block_free (j := 4) hblk
      have f5 := block_free (j := 5) hblk
      have f6 := block_free (j := 6) hblk
      have Hb7 := Lib.hid (set7_is (v0 := .slice sar (RR).store.length scr) (v1 := .slice rar (RR).refs.length rcr) (v2 := .int .i64 (RR).gen) (v3 := .int .i64 (RR).phase) (v4 := .slice oar (RR).pend.objects.length ocr) (v5 := .slice uar (RR).pend.updates.length ucr) (v6 := .bool (RR).pend.force) hblk)
      have Hu7 := Lib.hid (set7_upd D (.slice sar (RR).store.length scr) (.slice rar (RR).refs.length rcr) (.int .i64 (RR).gen) (.int .i64 (RR).phase) (.slice oar (RR).pend.objects.length ocr) (.slice uar (RR).pend.updates.length ucr) (.bool (RR).pend.force) x3)
      have hQ7 := HQu.out _ _ _ hC3 Hu7.out (fun b hb => by have := HDge.out; omega)
      have HB := Lib.hid (show BoxR D (set7 D (.slice sar (RR).store.length scr) (.slice rar (RR).refs.length rcr) (.int .i64 (RR).gen) (.int .i64 (RR).phase) (.slice oar (RR).pend.objects.length ocr) (.slice uar (RR).pend.updates.length ucr) (.bool (RR).pend.force) x3) RR from ⟨_, _, _, _, _, _, _, _, Hb7.out, RepIs.weaken (HvR.out.upd Hu7.out (fun b hb e => hb e)) fun _ _ => trivial⟩)
      clear HDb Hb7 HvR
      go_wp2_with fail
      refine ⟨hQ7, ?_⟩
      change wpAnyH _ _ _ _ _ _ _ _ (set7 D (.slice sar (RR).store.length scr) (.slice rar (RR).refs.length rcr) (.int .i64 (RR).gen) (.int .i64 (RR).phase) (.slice oar (RR).pend.objects.length ocr) (.slice uar (RR).pend.updates.length ucr) (.bool (RR).pend.force) x3)
      generalize set7 D (.slice sar (RR).store.length scr) (.slice rar (RR).refs.length rcr) (.int .i64 (RR).gen) (.int .i64 (RR).phase) (.slice oar (RR).pend.objects.length ocr) (.slice uar (RR).pend.updates.length ucr) (.bool (RR).pend.force) x3 = w7 at *
      clear g0 g1 g2 g3 g4 g5 g6 f0 f1 f2 f3 f4 f5 f6 hblk Hu7
      refine wpAnyH_all (rs := [8]) (by kernel_rfl) (by simp) (fun j hj => ?_)
      obtain rfl : j = 8 := by simpa using hj
      refine Or.inl ?_
      go_wp2_with fail
      first | refine ⟨hQ7, ?_⟩ | skip
      first | refine ⟨by kernel_rfl, ?_⟩ | refine wpAnyH_done (by kernel_rfl) ?_ _
      have HB2 := Lib.hid (hQb _ hQ7)
      subst hRR
      go_wp2_with fail
      go_meet
      exact ⟨⟨_, rfl⟩, rfl, _, rfl, HK2.out.1.below HB2.out, HK2.out.2.1.below HB2.out, below_next HK2.out.2.2 HB2.out⟩
    ·skip
     obtain rfl : j = 6 := by simpa using hj
     refine Or.inl ?_
     have hC1 := hQ.alloc _ (.cells #[.slice none 0 0, .slice none 0 0, .int .i64 0, .int .i64 0, .slice none 0 0, .slice none 0 0, .bool false] 43) hC0
     go_simp
     have hbA : Below x0.heap.size x0 (x0.alloc (.cells #[.slice none 0 0, .slice none 0 0, .int .i64 0, .int .i64 0, .slice none 0 0, .slice none 0 0, .bool false] 43)) := (Below.refl _ _).alloc (Nat.le_refl _) _
     have HDb := Lib.hid (heap_alloc_new x0 (.cells #[.slice none 0 0, .slice none 0 0, .int .i64 0, .int .i64 0, .slice none 0 0, .slice none 0 0, .bool false] 43))
     have HDlt := Lib.hid (show x0.heap.size < (x0.alloc (.cells #[.slice none 0 0, .slice none 0 0, .int .i64 0, .int .i64 0, .slice none 0 0, .slice none 0 0, .bool false] 43)).heap.size by simp)
     have HDge := Lib.hid (hQb _ hC0).size
     clear hbA
     generalize x0.heap.size = D at *
     generalize x0.alloc (.cells #[.slice none 0 0, .slice none 0 0, .int .i64 0, .int .i64 0, .slice none 0 0, .slice none 0 0, .bool false] 43) = x1 at *
     refine wpAnyH_all (rs := [1]) (by kernel_rfl) (by simp) (fun j hj => ?_)
     obtain rfl : j = 1 := by simpa using hj
     refine Or.inl ?_
     go_wp2_with fail
     refine (host_any _).mono ?_
     rintro e x2 ⟨svt, rvt, ovt, uvt, rfl, hv, hb⟩
     obtain ⟨sah0, sch0, rfl⟩ := hv.store.vshape
     obtain ⟨⟨rah0, rch0⟩, rfl⟩ := hv.refs.shape
     obtain ⟨oah0, och0, rfl⟩ := hv.objs.vshape
     obtain ⟨⟨uah0, uch0⟩, rfl⟩ := hv.upds.shape
     have hC2 := hQn _ _ hC1 hb
     replace HDb := Lib.hid (blk_below HDb.out hb)
     have Hh0 := Lib.hid (hv.weaken (S' := fun _ => True) fun _ _ => trivial)
     clear hv hb
     simp only [repV]
     go_simp
     refine wpAnyH_all (rs := [2]) (by kernel_rfl) (by simp) (fun j hj => ?_)
     obtain rfl : j = 2 := by simpa using hj
     refine Or.inl ?_
     have HDl := Lib.hid (show D < x2.heap.size from lt_of_block HDb.out)
     have HFr := Lib.hid (from_any oldR hostR _ _ _ _ _ _ _ _ _ _ x2 (HRo.out _ hC2) Hh0.out)
     rw [begun_r2] at HFr
     simp only [repV] at HFr
     go_wp2_with fail
     refine HFr.out.mono ?_
     rintro e x3 ⟨svt, rvt, ovt, uvt, rfl, hv, hb⟩
     obtain ⟨sar, scr, rfl⟩ := hv.store.vshape
     obtain ⟨⟨rar, rcr⟩, rfl⟩ := hv.refs.shape
     obtain ⟨oar, ocr, rfl⟩ := hv.objs.vshape
     obtain ⟨⟨uar, ucr⟩, rfl⟩ := hv.upds.shape
     have hC3 := hQn _ _ hC2 hb
     replace HDb := Lib.hid (blk_below HDb.out hb)
     replace Hh0 := Lib.hid (Hh0.out.below hb)
     have HvR := Lib.hid (hv.weaken (S' := fun b => b ≠ D) fun b hb2 => by have := HDl.out; omega)
     clear HDl
     clear hv hb HFr
     simp only [repV]
     generalize hRR : fromR oldR hostR = RR at *
     go_simp
     refine wpAnyH_take (i := 3) (v := .tuple #[.agg #[.slice sar (RR).store.length scr, .slice rar (RR).refs.length rcr, .int .i64 (RR).gen, .int .i64 (RR).phase, .slice oar (RR).pend.objects.length ocr, .slice uar (RR).pend.updates.length ucr, .bool (RR).pend.force], .int .i64 4]) rfl (by kernel_rfl) (by kernel_rfl) (by kernel_rfl) (fun _ _ _ h => h) (Or.inl ⟨by rfl, fun w hSw => ?_⟩) hC3 ?_
     ·go_simp
     simp only [Act.put, List.getElem_toArray, List.getElem_cons_zero, List.getElem_cons_succ, List.setIfInBounds_toArray, List.set_cons_zero, List.set_cons_succ]
     refine wpAnyH_take (i := 4) (v := .agg #[.slice sar (RR).store.length scr, .slice rar (RR).refs.length rcr, .int .i64 (RR).gen, .int .i64 (RR).phase, .slice oar (RR).pend.objects.length ocr, .slice uar (RR).pend.updates.length ucr, .bool (RR).pend.force]) rfl (by kernel_rfl) (by kernel_rfl) (by kernel_rfl) (fun _ _ _ h => h) (Or.inl ⟨by rfl, fun w hSw => ?_⟩) hC3 ?_
     ·go_simp
     simp only [Act.put, List.getElem_toArray, List.getElem_cons_zero, List.getElem_cons_succ, List.setIfInBounds_toArray, List.set_cons_zero, List.set_cons_succ]
     refine wpAnyH_take (i := 5) (v := .int .i64 4) rfl (by kernel_rfl) (by kernel_rfl) (by kernel_rfl) (fun _ _ _ h => h) (Or.inl ⟨by rfl, fun w hSw => ?_⟩) hC3 ?_
     ·go_simp
     simp only [Act.put, List.getElem_toArray, List.getElem_cons_zero, List.getElem_cons_succ, List.setIfInBounds_toArray, List.set_cons_zero, List.set_cons_succ]
     refine wpAnyH_all (rs := [7]) (by kernel_rfl) (by simp) (fun j hj => ?_)
     obtain rfl : j = 7 := by simpa using hj
     refine Or.inl ?_
     have hblk := HDb.out
     have g0 := block_cell (j := 0) hblk rfl
     have g1 := block_cell (j := 1) hblk rfl
     have g2 := block_cell (j := 2) hblk rfl
     have g3 := block_cell (j := 3) hblk rfl
     have g4 := block_cell (j := 4) hblk rfl
     have g5 := block_cell (j := 5) hblk rfl
     have g6 := block_cell (j := 6) hblk rfl
     have f0 := block_free (j := 0) hblk
     have f1 := block_free (j := 1) hblk
     have f2 := block_free (j := 2) hblk
     have f3 := block_free (j := 3) hblk
     have f4 := block_free (j := 4) hblk
     have f5 := block_free (j := 5) hblk
     have f6 := block_free (j := 6) hblk
     have Hb7 := Lib.hid (set7_is (v0 := .slice sar (RR).store.length scr) (v1 := .slice rar (RR).refs.length rcr) (v2 := .int .i64 (RR).gen) (v3 := .int .i64 (RR).phase) (v4 := .slice oar (RR).pend.objects.length ocr) (v5 := .slice uar (RR).pend.updates.length ucr) (v6 := .bool (RR).pend.force) hblk)
     have Hu7 := Lib.hid (set7_upd D (.slice sar (RR).store.length scr) (.slice rar (RR).refs.length rcr) (.int .i64 (RR).gen) (.int .i64 (RR).phase) (.slice oar (RR).pend.objects.length ocr) (.slice uar (RR).pend.updates.length ucr) (.bool (RR).pend.force) x3)
     have hQ7 := HQu.out _ _ _ hC3 Hu7.out (fun b hb => by have := HDge.out; omega)
     have HB := Lib.hid (show BoxR D (set7 D (.slice sar (RR).store.length scr) (.slice rar (RR).refs.length rcr) (.int .i64 (RR).gen) (.int .i64 (RR).phase) (.slice oar (RR).pend.objects.length ocr) (.slice uar (RR).pend.updates.length ucr) (.bool (RR).pend.force) x3) RR from ⟨_, _, _, _, _, _, _, _, Hb7.out, RepIs.weaken (HvR.out.upd Hu7.out (fun b hb e => hb e)) fun _ _ => trivial⟩)
     clear HDb Hb7 HvR
     go_wp2_with fail
     refine ⟨hQ7, ?_⟩
     change wpAnyH _ _ _ _ _ _ _ _ (set7 D (.slice sar (RR).store.length scr) (.slice rar (RR).refs.length rcr) (.int .i64 (RR).gen) (.int .i64 (RR).phase) (.slice oar (RR).pend.objects.length ocr) (.slice uar (RR).pend.updates.length ucr) (.bool (RR).pend.force) x3)
     generalize set7 D (.slice sar (RR).store.length scr) (.slice rar (RR).refs.length rcr) (.int .i64 (RR).gen) (.int .i64 (RR).phase) (.slice oar (RR).pend.objects.length ocr) (.slice uar (RR).pend.updates.length ucr) (.bool (RR).pend.force) x3 = w7 at *
     clear g0 g1 g2 g3 g4 g5 g6 f0 f1 f2 f3 f4 f5 f6 hblk Hu7
     refine wpAnyH_all (rs := [8]) (by kernel_rfl) (by simp) (fun j hj => ?_)
     obtain rfl : j = 8 := by simpa using hj
     refine Or.inl ?_
     go_wp2_with fail
     first | refine ⟨hQ7, ?_⟩ | skip
     first | refine ⟨by kernel_rfl, ?_⟩ | refine wpAnyH_done (by kernel_rfl) ?_ _
     have HB2 := Lib.hid (hQb _ hQ7)
     subst hRR
     go_wp2_with fail
     go_meet
     exact ⟨⟨_, rfl⟩, rfl, _, rfl, HK2.out.1.below HB2.out, HK2.out.2.1.below HB2.out, below_next HK2.out.2.2 HB2.out⟩
   case rest =>
    obtain ⟨⟨D3, rfl⟩, rfl, y3, rfl, HK3⟩ := hcut
    clear HK2
    go_upto_region 4 with fail
    go_cut [6, 7, 8] (fun s6 s7 s8 wx => ∃ D4, s6 = .pointer (some ⟨D4, 0, none⟩) ∧ s7 = .int .i64 1 ∧ s8 = .int .i64 0 ∧ ∃ y, y = wx ∧ Hid (BoxC D4 y (allL [hostR, oldR, hostR]) ∧ BoxR D2 y (fromR hostR oldR) ∧ Below w.heap.size w y))
    case first =>
     obtain ⟨sa1, sc1, ra1, rc1, oa1, oc1, ua1, uc1, hbk1, hr1⟩ := HK3.out.1
     have hD1 := lt_of_block hbk1
     obtain ⟨Q, hQ, hQ1, hQu⟩ := cls_new y3
     have hQb := hQ.below
     have hQn := hQ.next
     have HQu := Lib.hid hQu
     clear hQu
     have HBk := Lib.hid (fun x (hx : In Q x) => show x.heap[D1]? = some (.cells #[.slice sa1 (oldR).store.length sc1, .slice ra1 (oldR).refs.length rc1, .int .i64 (oldR).gen, .int .i64 (oldR).phase, .slice oa1 (oldR).pend.objects.length oc1, .slice ua1 (oldR).pend.updates.length uc1, .bool (oldR).pend.force] 43 (0, 0)) from blk_below hbk1 (hQb _ hx))
     have HRo := Lib.hid (fun x (hx : In Q x) => hr1.below (hQb _ hx))
     clear hbk1 hr1
     refine wp_region_held (S := In Q) (by kernel_rfl) ?_
     change wpAnyH _ _ _ _ _ _ _ _ (World.drew _)
     have hC0 := hQ.drew _ hQ1
     generalize y3.drew = x0 at hC0 ⊢
     refine wpAnyH_take (i := 1) (v := .agg #[.slice sa1 (oldR).store.length sc1, .slice ra1 (oldR).refs.length rc1, .int .i64 (oldR).gen, .int .i64 (oldR).phase, .slice oa1 (oldR).pend.objects.length oc1, .slice ua1 (oldR).pend.updates.length uc1, .bool (oldR).pend.force]) rfl (by kernel_rfl) (by kernel_rfl) (by kernel_rfl) (fun _ _ _ h => h) (Or.inl ⟨by rfl, fun w hSw => ?_⟩) hC0 ?_
     ·have hbk := HBk.out _ hSw
      have y0 := block_cell (j := 0) hbk rfl
      have y1 := block_cell (j := 1) hbk rfl
      have y2 := block_cell (j := 2) hbk rfl
      have y3 := block_cell (j := 3) hbk rfl
      have y4 := block_cell (j := 4) hbk rfl
      have y5 := block_cell (j := 5) hbk rfl
      have y6 := block_cell (j := 6) hbk rfl
      clear hbk
      go_simp
     simp only [Act.put, List.getElem_toArray, List.getElem_cons_zero, List.getElem_cons_succ, List.setIfInBounds_toArray, List.set_cons_zero, List.set_cons_succ]
     refine wpAnyH_all (rs := [0, 10]) (by kernel_rfl) (by simp) (fun j hj => ?_)
     rcases List.mem_cons.1 hj with rfl | hj
     ·skip
      refine Or.inl ?_
      go_wp2_with fail
      refine (host_any _).mono ?_
      rintro e x1 ⟨svt, rvt, ovt, uvt, rfl, hv, hb⟩
      obtain ⟨sah0, sch0, rfl⟩ := hv.store.vshape
      obtain ⟨⟨rah0, rch0⟩, rfl⟩ := hv.refs.shape
      obtain ⟨oah0, och0, rfl⟩ := hv.objs.vshape
      obtain ⟨⟨uah0, uch0⟩, rfl⟩ := hv.upds.shape
      have hC1 := hQn _ _ hC0 hb
      have Hh0 := Lib.hid (hv.weaken (S' := fun _ => True) fun _ _ => trivial)
      clear hv hb
      simp only [repV]
      go_simp
      refine wpAnyH_all (rs := [2, 10]) (by kernel_rfl) (by simp) (fun j hj => ?_)
      rcases List.mem_cons.1 hj with rfl | hj
      ·skip
       refine Or.inl ?_
       go_wp2_with fail
       refine (host_any _).mono ?_
       rintro e x2 ⟨svt, rvt, ovt, uvt, rfl, hv, hb⟩
       obtain ⟨sah1, sch1, rfl⟩ := hv.store.vshape
       obtain ⟨⟨rah1, rch1⟩, rfl⟩ := hv.refs.shape
       obtain ⟨oah1, och1, rfl⟩ := hv.objs.vshape
       obtain ⟨⟨uah1, uch1⟩, rfl⟩ := hv.upds.shape
       have hC2 := hQn _ _ hC1 hb
       replace Hh0 := Lib.hid (Hh0.out.below hb)
       have Hh1 := Lib.hid (hv.weaken (S' := fun _ => True) fun _ _ => trivial)
       clear hv hb
       simp only [repV]
       go_simp
       refine wpAnyH_all (rs := [3, 10]) (by kernel_rfl) (by simp) (fun j hj => ?_)
       rcases List.mem_cons.1 hj with rfl | hj
       ·skip
        refine Or.inl ?_
        have hrow := reps_new3 x2 hostR oldR hostR ⟨.slice sah0 (hostR).store.length sch0, .slice rah0 (hostR).refs.length rch0, .slice oah0 (hostR).pend.objects.length och0, .slice uah0 (hostR).pend.updates.length uch0⟩ ⟨.slice sa1 (oldR).store.length sc1, .slice ra1 (oldR).refs.length rc1, .slice oa1 (oldR).pend.objects.length oc1, .slice ua1 (oldR).pend.updates.length uc1⟩ ⟨.slice sah1 (hostR).store.length sch1, .slice rah1 (hostR).refs.length rch1, .slice oah1 (hostR).pend.objects.length och1, .slice uah1 (hostR).pend.updates.length uch1⟩ 43 x2.heap.size rfl Hh0.out (HRo.out _ hC2) Hh1.out
        simp only [repC, List.cons_append, List.nil_append] at hrow
        have hC3 := hQ.alloc _ (.cells #[.slice sah0 (hostR).store.length sch0, .slice rah0 (hostR).refs.length rch0, .int .i64 (hostR).gen, .int .i64 (hostR).phase, .slice oah0 (hostR).pend.objects.length och0, .slice uah0 (hostR).pend.updates.length uch0, .bool (hostR).pend.force, .slice sa1 (oldR).store.length sc1, .slice ra1 (oldR).refs.length rc1, .int .i64 (oldR).gen, .int .i64 (oldR).phase, .slice oa1 (oldR).pend.objects.length oc1, .slice ua1 (oldR).pend.updates.length uc1, .bool (oldR).pend.force, .slice sah1 (hostR).store.length sch1, .slice rah1 (hostR).refs.length rch1, .int .i64 (hostR).gen, .int .i64 (hostR).phase, .slice oah1 (hostR).pend.objects.length och1, .slice uah1 (hostR).pend.updates.length uch1, .bool (hostR).pend.force] 43) hC2
        have hbA : Below x2.heap.size x2 (x2.alloc (.cells #[.slice sah0 (hostR).store.length sch0, .slice rah0 (hostR).refs.length rch0, .int .i64 (hostR).gen, .int .i64 (hostR).phase, .slice oah0 (hostR).pend.objects.length och0, .slice uah0 (hostR).pend.updates.length uch0, .bool (hostR).pend.force, .slice sa1 (oldR).store.length sc1, .slice ra1 (oldR).refs.length rc1, .int .i64 (oldR).gen, .int .i64 (oldR).phase, .slice oa1 (oldR).pend.objects.length oc1, .slice ua1 (oldR).pend.updates.length uc1, .bool (oldR).pend.force, .slice sah1 (hostR).store.length sch1, .slice rah1 (hostR).refs.length rch1, .int .i64 (hostR).gen, .int .i64 (hostR).phase, .slice oah1 (hostR).pend.objects.length och1, .slice uah1 (hostR).pend.updates.length uch1, .bool (hostR).pend.force] 43)) := (Below.refl _ _).alloc (Nat.le_refl _) _
        replace Hh0 := Lib.hid (Hh0.out.below hbA)
        replace Hh1 := Lib.hid (Hh1.out.below hbA)
        have Hrow := Lib.hid hrow
        clear hrow hbA
        go_simp
        generalize x2.heap.size = B4 at *
        generalize x2.alloc (.cells #[.slice sah0 (hostR).store.length sch0, .slice rah0 (hostR).refs.length rch0, .int .i64 (hostR).gen, .int .i64 (hostR).phase, .slice oah0 (hostR).pend.objects.length och0, .slice uah0 (hostR).pend.updates.length uch0, .bool (hostR).pend.force, .slice sa1 (oldR).store.length sc1, .slice ra1 (oldR).refs.length rc1, .int .i64 (oldR).gen, .int .i64 (oldR).phase, .slice oa1 (oldR).pend.objects.length oc1, .slice ua1 (oldR).pend.updates.length uc1, .bool (oldR).pend.force, .slice sah1 (hostR).store.length sch1, .slice rah1 (hostR).refs.length rch1, .int .i64 (hostR).gen, .int .i64 (hostR).phase, .slice oah1 (hostR).pend.objects.length och1, .slice uah1 (hostR).pend.updates.length uch1, .bool (hostR).pend.force] 43) = x3 at *
        refine wpAnyH_take (i := 4) (v := .agg #[.slice (some ⟨B4, 0, none⟩) 3 3]) rfl (by kernel_rfl) (by kernel_rfl) (by kernel_rfl) (fun _ _ _ h => h) (Or.inl ⟨by rfl, fun w hSw => ?_⟩) hC3 ?_
        ·go_simp
        simp only [Act.put, List.getElem_toArray, List.getElem_cons_zero, List.getElem_cons_succ, List.setIfInBounds_toArray, List.set_cons_zero, List.set_cons_succ]
        refine wpAnyH_all (rs := [5, 10]) (by kernel_rfl) (by simp) (fun j hj => ?_)
        rcases List.mem_cons.1 hj with rfl | hj
        ·skip
         refine Or.inl ?_
         have HAl := Lib.hid (repairAll_any [hostR, oldR, hostR] _ _ x3 Hrow.out)
         rw [begun_r4, begun_r5] at HAl
         go_wp2_with fail
         refine HAl.out.mono ?_
         rintro e x4 ⟨vt, rfl, ⟨F, hO, hF⟩, hb⟩
         obtain ⟨a6, c6, rfl⟩ := hO.shape
         have hC4 := hQn _ _ hC3 hb
         have h120 : (allL [hostR, oldR, hostR]).length * 120 ≤ 140737488351232 := by rw [begun_r7]; omega
         have HvC := Lib.hid (hO.reps (S' := fun b => b < x4.heap.size) h120 (fun b hb2 => hO.lt hb2) (fun b hb2 => (hO.block hb2).2))
         clear hO hF hb HAl h120
         generalize hLL : allL [hostR, oldR, hostR] = L4 at *
         go_simp
         refine wpAnyH_take (i := 6) (v := .tuple #[.agg #[.slice a6 L4.length c6], .int .i64 1, .int .i64 0]) rfl (by kernel_rfl) (by kernel_rfl) (by kernel_rfl) (fun _ _ _ h => h) (Or.inl ⟨by rfl, fun w hSw => ?_⟩) hC4 ?_
         ·go_simp
         simp only [Act.put, List.getElem_toArray, List.getElem_cons_zero, List.getElem_cons_succ, List.setIfInBounds_toArray, List.set_cons_zero, List.set_cons_succ]
         refine wpAnyH_take (i := 7) (v := .agg #[.slice a6 L4.length c6]) rfl (by kernel_rfl) (by kernel_rfl) (by kernel_rfl) (fun _ _ _ h => h) (Or.inl ⟨by rfl, fun w hSw => ?_⟩) hC4 ?_
         ·go_simp
         simp only [Act.put, List.getElem_toArray, List.getElem_cons_zero, List.getElem_cons_succ, List.setIfInBounds_toArray, List.set_cons_zero, List.set_cons_succ]
         refine wpAnyH_take (i := 8) (v := .int .i64 1) rfl (by kernel_rfl) (by kernel_rfl) (by kernel_rfl) (fun _ _ _ h => h) (Or.inl ⟨by rfl, fun w hSw => ?_⟩) hC4 ?_
         ·go_simp
         simp only [Act.put, List.getElem_toArray, List.getElem_cons_zero, List.getElem_cons_succ, List.setIfInBounds_toArray, List.set_cons_zero, List.set_cons_succ]
         refine wpAnyH_take (i := 9) (v := .int .i64 0) rfl (by kernel_rfl) (by kernel_rfl) (by kernel_rfl) (fun _ _ _ h => h) (Or.inl ⟨by rfl, fun w hSw => ?_⟩) hC4 ?_
         ·go_simp
         simp only [Act.put, List.getElem_toArray, List.getElem_cons_zero, List.getElem_cons_succ, List.setIfInBounds_toArray, List.set_cons_zero, List.set_cons_succ]
         refine wpAnyH_all (rs := [10]) (by kernel_rfl) (by simp) (fun j hj => ?_)
         obtain rfl : j = 10 := by simpa using hj
         refine Or.inl ?_
         have HvC2 := HvC
         have hC5 := hQ.alloc _ (.cells #[.slice none 0 0] 24) hC4
         go_simp
         have hbA : Below x4.heap.size x4 (x4.alloc (.cells #[.slice none 0 0] 24)) := (Below.refl _ _).alloc (Nat.le_refl _) _
         have HDb := Lib.hid (heap_alloc_new x4 (.cells #[.slice none 0 0] 24))
         have HDlt := Lib.hid (show x4.heap.size < (x4.alloc (.cells #[.slice none 0 0] 24)).heap.size by simp)
         have HDge := Lib.hid (hQb _ hC4).size
         replace HvC := Lib.hid (HvC.out.below hbA)
         clear hbA
         generalize x4.heap.size = D at *
         generalize x4.alloc (.cells #[.slice none 0 0] 24) = x5 at *
         replace HvC := Lib.hid (HvC.out.weaken (S' := fun b => b ≠ D) fun b hb => by have := HvC2; omega)
         refine wpAnyH_all (rs := [11]) (by kernel_rfl) (by simp) (fun j hj => ?_)
         obtain rfl : j = 11 := by simpa using hj
         refine Or.inl ?_
         have hblk := HDb.out
         have g0 := block_cell (j := 0) hblk rfl
         have f0 := block_free (j := 0) hblk
         have hu1 : Upd (fun b => b = D) x5 (x5.setCell ⟨D, 0, none⟩ (.slice a6 L4.length c6)) := (Upd.refl (fun b => b = D) x5).setCell (p := ⟨D, 0, none⟩) (fun _ => rfl) _
         have hk1 : (x5.setCell ⟨D, 0, none⟩ (.slice a6 L4.length c6)).heap[D]? = some (.cells #[.slice a6 L4.length c6] 24 (0, 0)) := block_setCell (j := 0) hblk (.slice a6 L4.length c6)
         have hQ7 := HQu.out _ _ _ hC5 hu1 (fun b hb => by have := HDge.out; omega)
         have HB := Lib.hid (show BoxC D (x5.setCell ⟨D, 0, none⟩ (.slice a6 L4.length c6)) L4 from ⟨_, _, hk1, (HvC.out.upd hu1 (fun b hb e => hb e)).weaken fun _ _ => trivial⟩)
         clear HDb hu1 hk1 HvC
         go_wp2_with fail
         first | refine ⟨hQ7, ?_⟩ | skip
         change wpAnyH _ _ _ _ _ _ _ _ (x5.setCell ⟨D, 0, none⟩ (.slice a6 L4.length c6))
         generalize x5.setCell ⟨D, 0, none⟩ (.slice a6 L4.length c6) = w7 at *
         clear g0 f0 hblk
         refine wpAnyH_all (rs := [12]) (by kernel_rfl) (by simp) (fun j hj => ?_)
         obtain rfl : j = 12 := by simpa using hj
         refine Or.inl ?_
         go_wp2_with fail
         first | refine ⟨hQ7, ?_⟩ | skip
         refine wpAnyH_all (rs := [13]) (by kernel_rfl) (by simp) (fun j hj => ?_)
         obtain rfl : j = 13 := by simpa using hj
         refine Or.inl ?_
         go_wp2_with fail
         first | refine ⟨hQ7, ?_⟩ | skip
         first | refine ⟨by kernel_rfl, ?_⟩ | refine wpAnyH_done (by kernel_rfl) ?_ _
         have HB2 := Lib.hid (hQb _ hQ7)
         subst hLL
         go_wp2_with fail
         go_meet
         exact ⟨_, rfl, rfl, rfl, _, rfl, HB.out, HK3.out.2.1.below HB2.out, below_next HK3.out.2.2 HB2.out⟩
        ·skip
         obtain rfl : j = 10 := by simpa using hj
         refine Or.inl ?_
         have hC4 := hQ.alloc _ (.cells #[.slice none 0 0] 24) hC3
         go_simp
         have hbA : Below x3.heap.size x3 (x3.alloc (.cells #[.slice none 0 0] 24)) := (Below.refl _ _).alloc (Nat.le_refl _) _
         have HDb := Lib.hid (heap_alloc_new x3 (.cells #[.slice none 0 0] 24))
         have HDlt := Lib.hid (show x3.heap.size < (x3.alloc (.cells #[.slice none 0 0] 24)).heap.size by simp)
         have HDge := Lib.hid (hQb _ hC3).size
         replace Hrow := Lib.hid (Hrow.out.below hbA)
         clear hbA
         generalize x3.heap.size = D at *
         generalize x3.alloc (.cells #[.slice none 0 0] 24) = x4 at *
         refine wpAnyH_all (rs := [5]) (by kernel_rfl) (by simp) (fun j hj => ?_)
         obtain rfl : j = 5 := by simpa using hj
         refine Or.inl ?_
         have HDl := Lib.hid (show D < x4.heap.size from lt_of_block HDb.out)
         have HAl := Lib.hid (repairAll_any [hostR, oldR, hostR] _ _ x4 Hrow.out)
         rw [begun_r4, begun_r5] at HAl
         go_wp2_with fail
         refine HAl.out.mono ?_
         rintro e x5 ⟨vt, rfl, ⟨F, hO, hF⟩, hb⟩
         obtain ⟨a6, c6, rfl⟩ := hO.shape
         have hC5 := hQn _ _ hC4 hb
         replace HDb := Lib.hid (blk_below HDb.out hb)
         have h120 : (allL [hostR, oldR, hostR]).length * 120 ≤ 140737488351232 := by rw [begun_r7]; omega
         have HvC := Lib.hid (hO.reps (S' := fun b => b ≠ D) h120 (fun b hb2 => by have := hF b hb2; have := HDl.out; omega) (fun b hb2 => by have := (hO.block hb2).1; have := HDl.out; omega))
         clear hO hF hb HAl h120
         generalize hLL : allL [hostR, oldR, hostR] = L4 at *
         go_simp
         refine wpAnyH_take (i := 6) (v := .tuple #[.agg #[.slice a6 L4.length c6], .int .i64 1, .int .i64 0]) rfl (by kernel_rfl) (by kernel_rfl) (by kernel_rfl) (fun _ _ _ h => h) (Or.inl ⟨by rfl, fun w hSw => ?_⟩) hC5 ?_
         ·go_simp
         simp only [Act.put, List.getElem_toArray, List.getElem_cons_zero, List.getElem_cons_succ, List.setIfInBounds_toArray, List.set_cons_zero, List.set_cons_succ]
         refine wpAnyH_take (i := 7) (v := .agg #[.slice a6 L4.length c6]) rfl (by kernel_rfl) (by kernel_rfl) (by kernel_rfl) (fun _ _ _ h => h) (Or.inl ⟨by rfl, fun w hSw => ?_⟩) hC5 ?_
         ·go_simp
         simp only [Act.put, List.getElem_toArray, List.getElem_cons_zero, List.getElem_cons_succ, List.setIfInBounds_toArray, List.set_cons_zero, List.set_cons_succ]
         refine wpAnyH_take (i := 8) (v := .int .i64 1) rfl (by kernel_rfl) (by kernel_rfl) (by kernel_rfl) (fun _ _ _ h => h) (Or.inl ⟨by rfl, fun w hSw => ?_⟩) hC5 ?_
         ·go_simp
         simp only [Act.put, List.getElem_toArray, List.getElem_cons_zero, List.getElem_cons_succ, List.setIfInBounds_toArray, List.set_cons_zero, List.set_cons_succ]
         refine wpAnyH_take (i := 9) (v := .int .i64 0) rfl (by kernel_rfl) (by kernel_rfl) (by kernel_rfl) (fun _ _ _ h => h) (Or.inl ⟨by rfl, fun w hSw => ?_⟩) hC5 ?_
         ·go_simp
         simp only [Act.put, List.getElem_toArray, List.getElem_cons_zero, List.getElem_cons_succ, List.setIfInBounds_toArray, List.set_cons_zero, List.set_cons_succ]
         refine wpAnyH_all (rs := [11]) (by kernel_rfl) (by simp) (fun j hj => ?_)
         obtain rfl : j = 11 := by simpa using hj
         refine Or.inl ?_
         have hblk := HDb.out
         have g0 := block_cell (j := 0) hblk rfl
         have f0 := block_free (j := 0) hblk
         have hu1 : Upd (fun b => b = D) x5 (x5.setCell ⟨D, 0, none⟩ (.slice a6 L4.length c6)) := (Upd.refl (fun b => b = D) x5).setCell (p := ⟨D, 0, none⟩) (fun _ => rfl) _
         have hk1 : (x5.setCell ⟨D, 0, none⟩ (.slice a6 L4.length c6)).heap[D]? = some (.cells #[.slice a6 L4.length c6] 24 (0, 0)) := block_setCell (j := 0) hblk (.slice a6 L4.length c6)
         have hQ7 := HQu.out _ _ _ hC5 hu1 (fun b hb => by have := HDge.out; omega)
         have HB := Lib.hid (show BoxC D (x5.setCell ⟨D, 0, none⟩ (.slice a6 L4.length c6)) L4 from ⟨_, _, hk1, (HvC.out.upd hu1 (fun b hb e => hb e)).weaken fun _ _ => trivial⟩)
         clear HDb hu1 hk1 HvC
         go_wp2_with fail
         first | refine ⟨hQ7, ?_⟩ | skip
         change wpAnyH _ _ _ _ _ _ _ _ (x5.setCell ⟨D, 0, none⟩ (.slice a6 L4.length c6))
         generalize x5.setCell ⟨D, 0, none⟩ (.slice a6 L4.length c6) = w7 at *
         clear g0 f0 hblk
         refine wpAnyH_all (rs := [12]) (by kernel_rfl) (by simp) (fun j hj => ?_)
         obtain rfl : j = 12 := by simpa using hj
         refine Or.inl ?_
         go_wp2_with fail
         first | refine ⟨hQ7, ?_⟩ | skip
         refine wpAnyH_all (rs := [13]) (by kernel_rfl) (by simp) (fun j hj => ?_)
         obtain rfl : j = 13 := by simpa using hj
         refine Or.inl ?_
         go_wp2_with fail
         first | refine ⟨hQ7, ?_⟩ | skip
         first | refine ⟨by kernel_rfl, ?_⟩ | refine wpAnyH_done (by kernel_rfl) ?_ _
         have HB2 := Lib.hid (hQb _ hQ7)
         subst hLL
         go_wp2_with fail
         go_meet
         exact ⟨_, rfl, rfl, rfl, _, rfl, HB.out, HK3.out.2.1.below HB2.out, below_next HK3.out.2.2 HB2.out⟩
       ·skip
        obtain rfl : j = 10 := by simpa using hj
        refine Or.inl ?_
        have hC3 := hQ.alloc _ (.cells #[.slice none 0 0] 24) hC2
        go_simp
        have hbA : Below x2.heap.size x2 (x2.alloc (.cells #[.slice none 0 0] 24)) := (Below.refl _ _).alloc (Nat.le_refl _) _
        have HDb := Lib.hid (heap_alloc_new x2 (.cells #[.slice none 0 0] 24))
        have HDlt := Lib.hid (show x2.heap.size < (x2.alloc (.cells #[.slice none 0 0] 24)).heap.size by simp)
        have HDge := Lib.hid (hQb _ hC2).size
        replace Hh0 := Lib.hid (Hh0.out.below hbA)
        replace Hh1 := Lib.hid (Hh1.out.below hbA)
        clear hbA
        generalize x2.heap.size = D at *
        generalize x2.alloc (.cells #[.slice none 0 0] 24) = x3 at *
        refine wpAnyH_all (rs := [3]) (by kernel_rfl) (by simp) (fun j hj => ?_)
        obtain rfl : j = 3 := by simpa using hj
        refine Or.inl ?_
        have hrow := reps_new3 x3 hostR oldR hostR ⟨.slice sah0 (hostR).store.length sch0, .slice rah0 (hostR).refs.length rch0, .slice oah0 (hostR).pend.objects.length och0, .slice uah0 (hostR).pend.updates.length uch0⟩ ⟨.slice sa1 (oldR).store.length sc1, .slice ra1 (oldR).refs.length rc1, .slice oa1 (oldR).pend.objects.length oc1, .slice ua1 (oldR).pend.updates.length uc1⟩ ⟨.slice sah1 (hostR).store.length sch1, .slice rah1 (hostR).refs.length rch1, .slice oah1 (hostR).pend.objects.length och1, .slice uah1 (hostR).pend.updates.length uch1⟩ 43 x3.heap.size rfl Hh0.out (HRo.out _ hC3) Hh1.out
        simp only [repC, List.cons_append, List.nil_append] at hrow
        have hC4 := hQ.alloc _ (.cells #[.slice sah0 (hostR).store.length sch0, .slice rah0 (hostR).refs.length rch0, .int .i64 (hostR).gen, .int .i64 (hostR).phase, .slice oah0 (hostR).pend.objects.length och0, .slice uah0 (hostR).pend.updates.length uch0, .bool (hostR).pend.force, .slice sa1 (oldR).store.length sc1, .slice ra1 (oldR).refs.length rc1, .int .i64 (oldR).gen, .int .i64 (oldR).phase, .slice oa1 (oldR).pend.objects.length oc1, .slice ua1 (oldR).pend.updates.length uc1, .bool (oldR).pend.force, .slice sah1 (hostR).store.length sch1, .slice rah1 (hostR).refs.length rch1, .int .i64 (hostR).gen, .int .i64 (hostR).phase, .slice oah1 (hostR).pend.objects.length och1, .slice uah1 (hostR).pend.updates.length uch1, .bool (hostR).pend.force] 43) hC3
        have hbA : Below x3.heap.size x3 (x3.alloc (.cells #[.slice sah0 (hostR).store.length sch0, .slice rah0 (hostR).refs.length rch0, .int .i64 (hostR).gen, .int .i64 (hostR).phase, .slice oah0 (hostR).pend.objects.length och0, .slice uah0 (hostR).pend.updates.length uch0, .bool (hostR).pend.force, .slice sa1 (oldR).store.length sc1, .slice ra1 (oldR).refs.length rc1, .int .i64 (oldR).gen, .int .i64 (oldR).phase, .slice oa1 (oldR).pend.objects.length oc1, .slice ua1 (oldR).pend.updates.length uc1, .bool (oldR).pend.force, .slice sah1 (hostR).store.length sch1, .slice rah1 (hostR).refs.length rch1, .int .i64 (hostR).gen, .int .i64 (hostR).phase, .slice oah1 (hostR).pend.objects.length och1, .slice uah1 (hostR).pend.updates.length uch1, .bool (hostR).pend.force] 43)) := (Below.refl _ _).alloc (Nat.le_refl _) _
        replace Hh0 := Lib.hid (Hh0.out.below hbA)
        replace Hh1 := Lib.hid (Hh1.out.below hbA)
        replace HDb := Lib.hid (blk_below HDb.out hbA)
        have Hrow := Lib.hid hrow
        clear hrow hbA
        go_simp
        generalize x3.heap.size = B4 at *
        generalize x3.alloc (.cells #[.slice sah0 (hostR).store.length sch0, .slice rah0 (hostR).refs.length rch0, .int .i64 (hostR).gen, .int .i64 (hostR).phase, .slice oah0 (hostR).pend.objects.length och0, .slice uah0 (hostR).pend.updates.length uch0, .bool (hostR).pend.force, .slice sa1 (oldR).store.length sc1, .slice ra1 (oldR).refs.length rc1, .int .i64 (oldR).gen, .int .i64 (oldR).phase, .slice oa1 (oldR).pend.objects.length oc1, .slice ua1 (oldR).pend.updates.length uc1, .bool (oldR).pend.force, .slice sah1 (hostR).store.length sch1, .slice rah1 (hostR).refs.length rch1, .int .i64 (hostR).gen, .int .i64 (hostR).phase, .slice oah1 (hostR).pend.objects.length och1, .slice uah1 (hostR).pend.updates.length uch1, .bool (hostR).pend.force] 43) = x4 at *
        refine wpAnyH_take (i := 4) (v := .agg #[.slice (some ⟨B4, 0, none⟩) 3 3]) rfl (by kernel_rfl) (by kernel_rfl) (by kernel_rfl) (fun _ _ _ h => h) (Or.inl ⟨by rfl, fun w hSw => ?_⟩) hC4 ?_
        ·go_simp
        simp only [Act.put, List.getElem_toArray, List.getElem_cons_zero, List.getElem_cons_succ, List.setIfInBounds_toArray, List.set_cons_zero, List.set_cons_succ]
        refine wpAnyH_all (rs := [5]) (by kernel_rfl) (by simp) (fun j hj => ?_)
        obtain rfl : j = 5 := by simpa using hj
        refine Or.inl ?_
        have HDl := Lib.hid (show D < x4.heap.size from lt_of_block HDb.out)
        have HAl := Lib.hid (repairAll_any [hostR, oldR, hostR] _ _ x4 Hrow.out)
        rw [begun_r4, begun_r5] at HAl
        go_wp2_with fail
        refine HAl.out.mono ?_
        rintro e x5 ⟨vt, rfl, ⟨F, hO, hF⟩, hb⟩
        obtain ⟨a6, c6, rfl⟩ := hO.shape
        have hC5 := hQn _ _ hC4 hb
        replace HDb := Lib.hid (blk_below HDb.out hb)
        have h120 : (allL [hostR, oldR, hostR]).length * 120 ≤ 140737488351232 := by rw [begun_r7]; omega
        have HvC := Lib.hid (hO.reps (S' := fun b => b ≠ D) h120 (fun b hb2 => by have := hF b hb2; have := HDl.out; omega) (fun b hb2 => by have := (hO.block hb2).1; have := HDl.out; omega))
        clear hO hF hb HAl h120
        generalize hLL : allL [hostR, oldR, hostR] = L4 at *
        go_simp
        refine wpAnyH_take (i := 6) (v := .tuple #[.agg #[.slice a6 L4.length c6], .int .i64 1, .int .i64 0]) rfl (by kernel_rfl) (by kernel_rfl) (by kernel_rfl) (fun _ _ _ h => h) (Or.inl ⟨by rfl, fun w hSw => ?_⟩) hC5 ?_
        ·go_simp
        simp only [Act.put, List.getElem_toArray, List.getElem_cons_zero, List.getElem_cons_succ, List.setIfInBounds_toArray, List.set_cons_zero, List.set_cons_succ]
        refine wpAnyH_take (i := 7) (v := .agg #[.slice a6 L4.length c6]) rfl (by kernel_rfl) (by kernel_rfl) (by kernel_rfl) (fun _ _ _ h => h) (Or.inl ⟨by rfl, fun w hSw => ?_⟩) hC5 ?_
        ·go_simp
        simp only [Act.put, List.getElem_toArray, List.getElem_cons_zero, List.getElem_cons_succ, List.setIfInBounds_toArray, List.set_cons_zero, List.set_cons_succ]
        refine wpAnyH_take (i := 8) (v := .int .i64 1) rfl (by kernel_rfl) (by kernel_rfl) (by kernel_rfl) (fun _ _ _ h => h) (Or.inl ⟨by rfl, fun w hSw => ?_⟩) hC5 ?_
        ·go_simp
        simp only [Act.put, List.getElem_toArray, List.getElem_cons_zero, List.getElem_cons_succ, List.setIfInBounds_toArray, List.set_cons_zero, List.set_cons_succ]
        refine wpAnyH_take (i := 9) (v := .int .i64 0) rfl (by kernel_rfl) (by kernel_rfl) (by kernel_rfl) (fun _ _ _ h => h) (Or.inl ⟨by rfl, fun w hSw => ?_⟩) hC5 ?_
        ·go_simp
        simp only [Act.put, List.getElem_toArray, List.getElem_cons_zero, List.getElem_cons_succ, List.setIfInBounds_toArray, List.set_cons_zero, List.set_cons_succ]
        refine wpAnyH_all (rs := [11]) (by kernel_rfl) (by simp) (fun j hj => ?_)
        obtain rfl : j = 11 := by simpa using hj
        refine Or.inl ?_
        have hblk := HDb.out
        have g0 := block_cell (j := 0) hblk rfl
        have f0 := block_free (j := 0) hblk
        have hu1 : Upd (fun b => b = D) x5 (x5.setCell ⟨D, 0, none⟩ (.slice a6 L4.length c6)) := (Upd.refl (fun b => b = D) x5).setCell (p := ⟨D, 0, none⟩) (fun _ => rfl) _
        have hk1 : (x5.setCell ⟨D, 0, none⟩ (.slice a6 L4.length c6)).heap[D]? = some (.cells #[.slice a6 L4.length c6] 24 (0, 0)) := block_setCell (j := 0) hblk (.slice a6 L4.length c6)
        have hQ7 := HQu.out _ _ _ hC5 hu1 (fun b hb => by have := HDge.out; omega)
        have HB := Lib.hid (show BoxC D (x5.setCell ⟨D, 0, none⟩ (.slice a6 L4.length c6)) L4 from ⟨_, _, hk1, (HvC.out.upd hu1 (fun b hb e => hb e)).weaken fun _ _ => trivial⟩)
        clear HDb hu1 hk1 HvC
        go_wp2_with fail
        first | refine ⟨hQ7, ?_⟩ | skip
        change wpAnyH _ _ _ _ _ _ _ _ (x5.setCell ⟨D, 0, none⟩ (.slice a6 L4.length c6))
        generalize x5.setCell ⟨D, 0, none⟩ (.slice a6 L4.length c6) = w7 at *
        clear g0 f0 hblk
        refine wpAnyH_all (rs := [12]) (by kernel_rfl) (by simp) (fun j hj => ?_)
        obtain rfl : j = 12 := by simpa using hj
        refine Or.inl ?_
        go_wp2_with fail
        first | refine ⟨hQ7, ?_⟩ | skip
        refine wpAnyH_all (rs := [13]) (by kernel_rfl) (by simp) (fun j hj => ?_)
        obtain rfl : j = 13 := by simpa using hj
        refine Or.inl ?_
        go_wp2_with fail
        first | refine ⟨hQ7, ?_⟩ | skip
        first | refine ⟨by kernel_rfl, ?_⟩ | refine wpAnyH_done (by kernel_rfl) ?_ _
        have HB2 := Lib.hid (hQb _ hQ7)
        subst hLL
        go_wp2_with fail
        go_meet
        exact ⟨_, rfl, rfl, rfl, _, rfl, HB.out, HK3.out.2.1.below HB2.out, below_next HK3.out.2.2 HB2.out⟩
      ·skip
       obtain rfl : j = 10 := by simpa using hj
       refine Or.inl ?_
       have hC2 := hQ.alloc _ (.cells #[.slice none 0 0] 24) hC1
       go_simp
       have hbA : Below x1.heap.size x1 (x1.alloc (.cells #[.slice none 0 0] 24)) := (Below.refl _ _).alloc (Nat.le_refl _) _
       have HDb := Lib.hid (heap_alloc_new x1 (.cells #[.slice none 0 0] 24))
       have HDlt := Lib.hid (show x1.heap.size < (x1.alloc (.cells #[.slice none 0 0] 24)).heap.size by simp)
       have HDge := Lib.hid (hQb _ hC1).size
       replace Hh0 := Lib.hid (Hh0.out.below hbA)
       clear hbA
       generalize x1.heap.size = D at *
       generalize x1.alloc (.cells #[.slice none 0 0] 24) = x2 at *
       refine wpAnyH_all (rs := [2]) (by kernel_rfl) (by simp) (fun j hj => ?_)
       obtain rfl : j = 2 := by simpa using hj
       refine Or.inl ?_
       go_wp2_with fail
       refine (host_any _).mono ?_
       rintro e x3 ⟨svt, rvt, ovt, uvt, rfl, hv, hb⟩
       obtain ⟨sah1, sch1, rfl⟩ := hv.store.vshape
       obtain ⟨⟨rah1, rch1⟩, rfl⟩ := hv.refs.shape
       obtain ⟨oah1, och1, rfl⟩ := hv.objs.vshape
       obtain ⟨⟨uah1, uch1⟩, rfl⟩ := hv.upds.shape
       have hC3 := hQn _ _ hC2 hb
       replace Hh0 := Lib.hid (Hh0.out.below hb)
       replace HDb := Lib.hid (blk_below HDb.out hb)
       have Hh1 := Lib.hid (hv.weaken (S' := fun _ => True) fun _ _ => trivial)
       clear hv hb
       simp only [repV]
       go_simp
       refine wpAnyH_all (rs := [3]) (by kernel_rfl) (by simp) (fun j hj => ?_)
       obtain rfl : j = 3 := by simpa using hj
       refine Or.inl ?_
       have hrow := reps_new3 x3 hostR oldR hostR ⟨.slice sah0 (hostR).store.length sch0, .slice rah0 (hostR).refs.length rch0, .slice oah0 (hostR).pend.objects.length och0, .slice uah0 (hostR).pend.updates.length uch0⟩ ⟨.slice sa1 (oldR).store.length sc1, .slice ra1 (oldR).refs.length rc1, .slice oa1 (oldR).pend.objects.length oc1, .slice ua1 (oldR).pend.updates.length uc1⟩ ⟨.slice sah1 (hostR).store.length sch1, .slice rah1 (hostR).refs.length rch1, .slice oah1 (hostR).pend.objects.length och1, .slice uah1 (hostR).pend.updates.length uch1⟩ 43 x3.heap.size rfl Hh0.out (HRo.out _ hC3) Hh1.out
       simp only [repC, List.cons_append, List.nil_append] at hrow
       have hC4 := hQ.alloc _ (.cells #[.slice sah0 (hostR).store.length sch0, .slice rah0 (hostR).refs.length rch0, .int .i64 (hostR).gen, .int .i64 (hostR).phase, .slice oah0 (hostR).pend.objects.length och0, .slice uah0 (hostR).pend.updates.length uch0, .bool (hostR).pend.force, .slice sa1 (oldR).store.length sc1, .slice ra1 (oldR).refs.length rc1, .int .i64 (oldR).gen, .int .i64 (oldR).phase, .slice oa1 (oldR).pend.objects.length oc1, .slice ua1 (oldR).pend.updates.length uc1, .bool (oldR).pend.force, .slice sah1 (hostR).store.length sch1, .slice rah1 (hostR).refs.length rch1, .int .i64 (hostR).gen, .int .i64 (hostR).phase, .slice oah1 (hostR).pend.objects.length och1, .slice uah1 (hostR).pend.updates.length uch1, .bool (hostR).pend.force] 43) hC3
       have hbA : Below x3.heap.size x3 (x3.alloc (.cells #[.slice sah0 (hostR).store.length sch0, .slice rah0 (hostR).refs.length rch0, .int .i64 (hostR).gen, .int .i64 (hostR).phase, .slice oah0 (hostR).pend.objects.length och0, .slice uah0 (hostR).pend.updates.length uch0, .bool (hostR).pend.force, .slice sa1 (oldR).store.length sc1, .slice ra1 (oldR).refs.length rc1, .int .i64 (oldR).gen, .int .i64 (oldR).phase, .slice oa1 (oldR).pend.objects.length oc1, .slice ua1 (oldR).pend.updates.length uc1, .bool (oldR).pend.force, .slice sah1 (hostR).store.length sch1, .slice rah1 (hostR).refs.length rch1, .int .i64 (hostR).gen, .int .i64 (hostR).phase, .slice oah1 (hostR).pend.objects.length och1, .slice uah1 (hostR).pend.updates.length uch1, .bool (hostR).pend.force] 43)) := (Below.refl _ _).alloc (Nat.le_refl _) _
       replace Hh0 := Lib.hid (Hh0.out.below hbA)
       replace HDb := Lib.hid (blk_below HDb.out hbA)
       replace Hh1 := Lib.hid (Hh1.out.below hbA)
       have Hrow := Lib.hid hrow
       clear hrow hbA
       go_simp
       generalize x3.heap.size = B4 at *
       generalize x3.alloc (.cells #[.slice sah0 (hostR).store.length sch0, .slice rah0 (hostR).refs.length rch0, .int .i64 (hostR).gen, .int .i64 (hostR).phase, .slice oah0 (hostR).pend.objects.length och0, .slice uah0 (hostR).pend.updates.length uch0, .bool (hostR).pend.force, .slice sa1 (oldR).store.length sc1, .slice ra1 (oldR).refs.length rc1, .int .i64 (oldR).gen, .int .i64 (oldR).phase, .slice oa1 (oldR).pend.objects.length oc1, .slice ua1 (oldR).pend.updates.length uc1, .bool (oldR).pend.force, .slice sah1 (hostR).store.length sch1, .slice rah1 (hostR).refs.length rch1, .int .i64 (hostR).gen, .int .i64 (hostR).phase, .slice oah1 (hostR).pend.objects.length och1, .slice uah1 (hostR).pend.updates.length uch1, .bool (hostR).pend.force] 43) = x4 at *
       refine wpAnyH_take (i := 4) (v := .agg #[.slice (some ⟨B4, 0, none⟩) 3 3]) rfl (by kernel_rfl) (by kernel_rfl) (by kernel_rfl) (fun _ _ _ h => h) (Or.inl ⟨by rfl, fun w hSw => ?_⟩) hC4 ?_
       ·go_simp
       simp only [Act.put, List.getElem_toArray, List.getElem_cons_zero, List.getElem_cons_succ, List.setIfInBounds_toArray, List.set_cons_zero, List.set_cons_succ]
       refine wpAnyH_all (rs := [5]) (by kernel_rfl) (by simp) (fun j hj => ?_)
       obtain rfl : j = 5 := by simpa using hj
       refine Or.inl ?_
       have HDl := Lib.hid (show D < x4.heap.size from lt_of_block HDb.out)
       have HAl := Lib.hid (repairAll_any [hostR, oldR, hostR] _ _ x4 Hrow.out)
       rw [begun_r4, begun_r5] at HAl
       go_wp2_with fail
       refine HAl.out.mono ?_
       rintro e x5 ⟨vt, rfl, ⟨F, hO, hF⟩, hb⟩
       obtain ⟨a6, c6, rfl⟩ := hO.shape
       have hC5 := hQn _ _ hC4 hb
       replace HDb := Lib.hid (blk_below HDb.out hb)
       have h120 : (allL [hostR, oldR, hostR]).length * 120 ≤ 140737488351232 := by rw [begun_r7]; omega
       have HvC := Lib.hid (hO.reps (S' := fun b => b ≠ D) h120 (fun b hb2 => by have := hF b hb2; have := HDl.out; omega) (fun b hb2 => by have := (hO.block hb2).1; have := HDl.out; omega))
       clear hO hF hb HAl h120
       generalize hLL : allL [hostR, oldR, hostR] = L4 at *
       go_simp
       refine wpAnyH_take (i := 6) (v := .tuple #[.agg #[.slice a6 L4.length c6], .int .i64 1, .int .i64 0]) rfl (by kernel_rfl) (by kernel_rfl) (by kernel_rfl) (fun _ _ _ h => h) (Or.inl ⟨by rfl, fun w hSw => ?_⟩) hC5 ?_
       ·go_simp
       simp only [Act.put, List.getElem_toArray, List.getElem_cons_zero, List.getElem_cons_succ, List.setIfInBounds_toArray, List.set_cons_zero, List.set_cons_succ]
       refine wpAnyH_take (i := 7) (v := .agg #[.slice a6 L4.length c6]) rfl (by kernel_rfl) (by kernel_rfl) (by kernel_rfl) (fun _ _ _ h => h) (Or.inl ⟨by rfl, fun w hSw => ?_⟩) hC5 ?_
       ·go_simp
       simp only [Act.put, List.getElem_toArray, List.getElem_cons_zero, List.getElem_cons_succ, List.setIfInBounds_toArray, List.set_cons_zero, List.set_cons_succ]
       refine wpAnyH_take (i := 8) (v := .int .i64 1) rfl (by kernel_rfl) (by kernel_rfl) (by kernel_rfl) (fun _ _ _ h => h) (Or.inl ⟨by rfl, fun w hSw => ?_⟩) hC5 ?_
       ·go_simp
       simp only [Act.put, List.getElem_toArray, List.getElem_cons_zero, List.getElem_cons_succ, List.setIfInBounds_toArray, List.set_cons_zero, List.set_cons_succ]
       refine wpAnyH_take (i := 9) (v := .int .i64 0) rfl (by kernel_rfl) (by kernel_rfl) (by kernel_rfl) (fun _ _ _ h => h) (Or.inl ⟨by rfl, fun w hSw => ?_⟩) hC5 ?_
       ·go_simp
       simp only [Act.put, List.getElem_toArray, List.getElem_cons_zero, List.getElem_cons_succ, List.setIfInBounds_toArray, List.set_cons_zero, List.set_cons_succ]
       refine wpAnyH_all (rs := [11]) (by kernel_rfl) (by simp) (fun j hj => ?_)
       obtain rfl : j = 11 := by simpa using hj
       refine Or.inl ?_
       have hblk := HDb.out
       have g0 := block_cell (j := 0) hblk rfl
       have f0 := block_free (j := 0) hblk
       have hu1 : Upd (fun b => b = D) x5 (x5.setCell ⟨D, 0, none⟩ (.slice a6 L4.length c6)) := (Upd.refl (fun b => b = D) x5).setCell (p := ⟨D, 0, none⟩) (fun _ => rfl) _
       have hk1 : (x5.setCell ⟨D, 0, none⟩ (.slice a6 L4.length c6)).heap[D]? = some (.cells #[.slice a6 L4.length c6] 24 (0, 0)) := block_setCell (j := 0) hblk (.slice a6 L4.length c6)
       have hQ7 := HQu.out _ _ _ hC5 hu1 (fun b hb => by have := HDge.out; omega)
       have HB := Lib.hid (show BoxC D (x5.setCell ⟨D, 0, none⟩ (.slice a6 L4.length c6)) L4 from ⟨_, _, hk1, (HvC.out.upd hu1 (fun b hb e => hb e)).weaken fun _ _ => trivial⟩)
       clear HDb hu1 hk1 HvC
       go_wp2_with fail
       first | refine ⟨hQ7, ?_⟩ | skip
       change wpAnyH _ _ _ _ _ _ _ _ (x5.setCell ⟨D, 0, none⟩ (.slice a6 L4.length c6))
       generalize x5.setCell ⟨D, 0, none⟩ (.slice a6 L4.length c6) = w7 at *
       clear g0 f0 hblk
       refine wpAnyH_all (rs := [12]) (by kernel_rfl) (by simp) (fun j hj => ?_)
       obtain rfl : j = 12 := by simpa using hj
       refine Or.inl ?_
       go_wp2_with fail
       first | refine ⟨hQ7, ?_⟩ | skip
       refine wpAnyH_all (rs := [13]) (by kernel_rfl) (by simp) (fun j hj => ?_)
       obtain rfl : j = 13 := by simpa using hj
       refine Or.inl ?_
       go_wp2_with fail
       first | refine ⟨hQ7, ?_⟩ | skip
       first | refine ⟨by kernel_rfl, ?_⟩ | refine wpAnyH_done (by kernel_rfl) ?_ _
       have HB2 := Lib.hid (hQb _ hQ7)
       subst hLL
       go_wp2_with fail
       go_meet
       exact ⟨_, rfl, rfl, rfl, _, rfl, HB.out, HK3.out.2.1.below HB2.out, below_next HK3.out.2.2 HB2.out⟩
     ·skip
      obtain rfl : j = 10 := by simpa using hj
      refine Or.inl ?_
      have hC1 := hQ.alloc _ (.cells #[.slice none 0 0] 24) hC0
      go_simp
      have hbA : Below x0.heap.size x0 (x0.alloc (.cells #[.slice none 0 0] 24)) := (Below.refl _ _).alloc (Nat.le_refl _) _
      have HDb := Lib.hid (heap_alloc_new x0 (.cells #[.slice none 0 0] 24))
      have HDlt := Lib.hid (show x0.heap.size < (x0.alloc (.cells #[.slice none 0 0] 24)).heap.size by simp)
      have HDge := Lib.hid (hQb _ hC0).size
      clear hbA
      generalize x0.heap.size = D at *
      generalize x0.alloc (.cells #[.slice none 0 0] 24) = x1 at *
      refine wpAnyH_all (rs := [0]) (by kernel_rfl) (by simp) (fun j hj => ?_)
      obtain rfl : j = 0 := by simpa using hj
      refine Or.inl ?_
      go_wp2_with fail
      refine (host_any _).mono ?_
      rintro e x2 ⟨svt, rvt, ovt, uvt, rfl, hv, hb⟩
      obtain ⟨sah0, sch0, rfl⟩ := hv.store.vshape
      obtain ⟨⟨rah0, rch0⟩, rfl⟩ := hv.refs.shape
      obtain ⟨oah0, och0, rfl⟩ := hv.objs.vshape
      obtain ⟨⟨uah0, uch0⟩, rfl⟩ := hv.upds.shape
      have hC2 := hQn _ _ hC1 hb
      replace HDb := Lib.hid (blk_below HDb.out hb)
      have Hh0 := Lib.hid (hv.weaken (S' := fun _ => True) fun _ _ => trivial)
      clear hv hb
      simp only [repV]
      go_simp
      refine wpAnyH_all (rs := [2]) (by kernel_rfl) (by simp) (fun j hj => ?_)
      obtain rfl : j = 2 := by simpa using hj
      refine Or.inl ?_
      go_wp2_with fail
      refine (host_any _).mono ?_
      rintro e x3 ⟨svt, rvt, ovt, uvt, rfl, hv, hb⟩
      obtain ⟨sah1, sch1, rfl⟩ := hv.store.vshape
      obtain ⟨⟨rah1, rch1⟩, rfl⟩ := hv.refs.shape
      obtain ⟨oah1, och1, rfl⟩ := hv.objs.vshape
      obtain ⟨⟨uah1, uch1⟩, rfl⟩ := hv.upds.shape
      have hC3 := hQn _ _ hC2 hb
      replace HDb := Lib.hid (blk_below HDb.out hb)
      replace Hh0 := Lib.hid (Hh0.out.below hb)
      have Hh1 := Lib.hid (hv.weaken (S' := fun _ => True) fun _ _ => trivial)
      clear hv hb
      simp only [repV]
      go_simp
      refine wpAnyH_all (rs := [3]) (by kernel_rfl) (by simp) (fun j hj => ?_)
      obtain rfl : j = 3 := by simpa using hj
      refine Or.inl ?_
      have hrow := reps_new3 x3 hostR oldR hostR ⟨.slice sah0 (hostR).store.length sch0, .slice rah0 (hostR).refs.length rch0, .slice oah0 (hostR).pend.objects.length och0, .slice uah0 (hostR).pend.updates.length uch0⟩ ⟨.slice sa1 (oldR).store.length sc1, .slice ra1 (oldR).refs.length rc1, .slice oa1 (oldR).pend.objects.length oc1, .slice ua1 (oldR).pend.updates.length uc1⟩ ⟨.slice sah1 (hostR).store.length sch1, .slice rah1 (hostR).refs.length rch1, .slice oah1 (hostR).pend.objects.length och1, .slice uah1 (hostR).pend.updates.length uch1⟩ 43 x3.heap.size rfl Hh0.out (HRo.out _ hC3) Hh1.out
      simp only [repC, List.cons_append, List.nil_append] at hrow
      have hC4 := hQ.alloc _ (.cells #[.slice sah0 (hostR).store.length sch0, .slice rah0 (hostR).refs.length rch0, .int .i64 (hostR).gen, .int .i64 (hostR).phase, .slice oah0 (hostR).pend.objects.length och0, .slice uah0 (hostR).pend.updates.length uch0, .bool (hostR).pend.force, .slice sa1 (oldR).store.length sc1, .slice ra1 (oldR).refs.length rc1, .int .i64 (oldR).gen, .int .i64 (oldR).phase, .slice oa1 (oldR).pend.objects.length oc1, .slice ua1 (oldR).pend.updates.length uc1, .bool (oldR).pend.force, .slice sah1 (hostR).store.length sch1, .slice rah1 (hostR).refs.length rch1, .int .i64 (hostR).gen, .int .i64 (hostR).phase, .slice oah1 (hostR).pend.objects.length och1, .slice uah1 (hostR).pend.updates.length uch1, .bool (hostR).pend.force] 43) hC3
      have hbA : Below x3.heap.size x3 (x3.alloc (.cells #[.slice sah0 (hostR).store.length sch0, .slice rah0 (hostR).refs.length rch0, .int .i64 (hostR).gen, .int .i64 (hostR).phase, .slice oah0 (hostR).pend.objects.length och0, .slice uah0 (hostR).pend.updates.length uch0, .bool (hostR).pend.force, .slice sa1 (oldR).store.length sc1, .slice ra1 (oldR).refs.length rc1, .int .i64 (oldR).gen, .int .i64 (oldR).phase, .slice oa1 (oldR).pend.objects.length oc1, .slice ua1 (oldR).pend.updates.length uc1, .bool (oldR).pend.force, .slice sah1 (hostR).store.length sch1, .slice rah1 (hostR).refs.length rch1, .int .i64 (hostR).gen, .int .i64 (hostR).phase, .slice oah1 (hostR).pend.objects.length och1, .slice uah1 (hostR).pend.updates.length uch1, .bool (hostR).pend.force] 43)) := (Below.refl _ _).alloc (Nat.le_refl _) _
      replace HDb := Lib.hid (blk_below HDb.out hbA)
      replace Hh0 := Lib.hid (Hh0.out.below hbA)
      replace Hh1 := Lib.hid (Hh1.out.below hbA)
      have Hrow := Lib.hid hrow
      clear hrow hbA
      go_simp
      generalize x3.heap.size = B4 at *
      generalize x3.alloc (.cells #[.slice sah0 (hostR).store.length sch0, .slice rah0 (hostR).refs.length rch0, .int .i64 (hostR).gen, .int .i64 (hostR).phase, .slice oah0 (hostR).pend.objects.length och0, .slice uah0 (hostR).pend.updates.length uch0, .bool (hostR).pend.force, .slice sa1 (oldR).store.length sc1, .slice ra1 (oldR).refs.length rc1, .int .i64 (oldR).gen, .int .i64 (oldR).phase, .slice oa1 (oldR).pend.objects.length oc1, .slice ua1 (oldR).pend.updates.length uc1, .bool (oldR).pend.force, .slice sah1 (hostR).store.length sch1, .slice rah1 (hostR).refs.length rch1, .int .i64 (hostR).gen, .int .i64 (hostR).phase, .slice oah1 (hostR).pend.objects.length och1, .slice uah1 (hostR).pend.updates.length uch1, .bool (hostR).pend.force] 43) = x4 at *
      refine wpAnyH_take (i := 4) (v := .agg #[.slice (some ⟨B4, 0, none⟩) 3 3]) rfl (by kernel_rfl) (by kernel_rfl) (by kernel_rfl) (fun _ _ _ h => h) (Or.inl ⟨by rfl, fun w hSw => ?_⟩) hC4 ?_
      ·go_simp
      simp only [Act.put, List.getElem_toArray, List.getElem_cons_zero, List.getElem_cons_succ, List.setIfInBounds_toArray, List.set_cons_zero, List.set_cons_succ]
      refine wpAnyH_all (rs := [5]) (by kernel_rfl) (by simp) (fun j hj => ?_)
      obtain rfl : j = 5 := by simpa using hj
      refine Or.inl ?_
      have HDl := Lib.hid (show D < x4.heap.size from lt_of_block HDb.out)
      have HAl := Lib.hid (repairAll_any [hostR, oldR, hostR] _ _ x4 Hrow.out)
      rw [begun_r4, begun_r5] at HAl
      go_wp2_with fail
      refine HAl.out.mono ?_
      rintro e x5 ⟨vt, rfl, ⟨F, hO, hF⟩, hb⟩
      obtain ⟨a6, c6, rfl⟩ := hO.shape
      have hC5 := hQn _ _ hC4 hb
      replace HDb := Lib.hid (blk_below HDb.out hb)
      have h120 : (allL [hostR, oldR, hostR]).length * 120 ≤ 140737488351232 := by rw [begun_r7]; omega
      have HvC := Lib.hid (hO.reps (S' := fun b => b ≠ D) h120 (fun b hb2 => by have := hF b hb2; have := HDl.out; omega) (fun b hb2 => by have := (hO.block hb2).1; have := HDl.out; omega))
      clear hO hF hb HAl h120
      generalize hLL : allL [hostR, oldR, hostR] = L4 at *
      go_simp
      refine wpAnyH_take (i := 6) (v := .tuple #[.agg #[.slice a6 L4.length c6], .int .i64 1, .int .i64 0]) rfl (by kernel_rfl) (by kernel_rfl) (by kernel_rfl) (fun _ _ _ h => h) (Or.inl ⟨by rfl, fun w hSw => ?_⟩) hC5 ?_
      ·go_simp
      simp only [Act.put, List.getElem_toArray, List.getElem_cons_zero, List.getElem_cons_succ, List.setIfInBounds_toArray, List.set_cons_zero, List.set_cons_succ]
      refine wpAnyH_take (i := 7) (v := .agg #[.slice a6 L4.length c6]) rfl (by kernel_rfl) (by kernel_rfl) (by kernel_rfl) (fun _ _ _ h => h) (Or.inl ⟨by rfl, fun w hSw => ?_⟩) hC5 ?_
      ·go_simp
      simp only [Act.put, List.getElem_toArray, List.getElem_cons_zero, List.getElem_cons_succ, List.setIfInBounds_toArray, List.set_cons_zero, List.set_cons_succ]
      refine wpAnyH_take (i := 8) (v := .int .i64 1) rfl (by kernel_rfl) (by kernel_rfl) (by kernel_rfl) (fun _ _ _ h => h) (Or.inl ⟨by rfl, fun w hSw => ?_⟩) hC5 ?_
      ·go_simp
      simp only [Act.put, List.getElem_toArray, List.getElem_cons_zero, List.getElem_cons_succ, List.setIfInBounds_toArray, List.set_cons_zero, List.set_cons_succ]
      refine wpAnyH_take (i := 9) (v := .int .i64 0) rfl (by kernel_rfl) (by kernel_rfl) (by kernel_rfl) (fun _ _ _ h => h) (Or.inl ⟨by rfl, fun w hSw => ?_⟩) hC5 ?_
      ·go_simp
      simp only [Act.put, List.getElem_toArray, List.getElem_cons_zero, List.getElem_cons_succ, List.setIfInBounds_toArray, List.set_cons_zero, List.set_cons_succ]
      refine wpAnyH_all (rs := [11]) (by kernel_rfl) (by simp) (fun j hj => ?_)
      obtain rfl : j = 11 := by simpa using hj
      refine Or.inl ?_
      have hblk := HDb.out
      have g0 := block_cell (j := 0) hblk rfl
      have f0 := block_free (j := 0) hblk
      have hu1 : Upd (fun b => b = D) x5 (x5.setCell ⟨D, 0, none⟩ (.slice a6 L4.length c6)) := (Upd.refl (fun b => b = D) x5).setCell (p := ⟨D, 0, none⟩) (fun _ => rfl) _
      have hk1 : (x5.setCell ⟨D, 0, none⟩ (.slice a6 L4.length c6)).heap[D]? = some (.cells #[.slice a6 L4.length c6] 24 (0, 0)) := block_setCell (j := 0) hblk (.slice a6 L4.length c6)
      have hQ7 := HQu.out _ _ _ hC5 hu1 (fun b hb => by have := HDge.out; omega)
      have HB := Lib.hid (show BoxC D (x5.setCell ⟨D, 0, none⟩ (.slice a6 L4.length c6)) L4 from ⟨_, _, hk1, (HvC.out.upd hu1 (fun b hb e => hb e)).weaken fun _ _ => trivial⟩)
      clear HDb hu1 hk1 HvC
      go_wp2_with fail
      first | refine ⟨hQ7, ?_⟩ | skip
      change wpAnyH _ _ _ _ _ _ _ _ (x5.setCell ⟨D, 0, none⟩ (.slice a6 L4.length c6))
      generalize x5.setCell ⟨D, 0, none⟩ (.slice a6 L4.length c6) = w7 at *
      clear g0 f0 hblk
      refine wpAnyH_all (rs := [12]) (by kernel_rfl) (by simp) (fun j hj => ?_)
      obtain rfl : j = 12 := by simpa using hj
      refine Or.inl ?_
      go_wp2_with fail
      first | refine ⟨hQ7, ?_⟩ | skip
      refine wpAnyH_all (rs := [13]) (by kernel_rfl) (by simp) (fun j hj => ?_)
      obtain rfl : j = 13 := by simpa using hj
      refine Or.inl ?_
      go_wp2_with fail
      first | refine ⟨hQ7, ?_⟩ | skip
      first | refine ⟨by kernel_rfl, ?_⟩ | refine wpAnyH_done (by kernel_rfl) ?_ _
      have HB2 := Lib.hid (hQb _ hQ7)
      subst hLL
      go_wp2_with fail
      go_meet
      exact ⟨_, rfl, rfl, rfl, _, rfl, HB.out, HK3.out.2.1.below HB2.out, below_next HK3.out.2.2 HB2.out⟩
    case rest =>
     obtain ⟨D4, rfl, rfl, rfl, y4, rfl, HK4⟩ := hcut
     clear HK3
     obtain ⟨sa1, sc1, ra1, rc1, oa1, oc1, ua1, uc1, hbk2, hr2⟩ := HK4.out.2.1
     obtain ⟨a6, c6, hbk4, hr4⟩ := HK4.out.1
     have HF3 := Lib.hid begun_r3
     have HF6 := Lib.hid begun_r6
     generalize hRR : fromR hostR oldR = RR at *
     generalize hLL : allL [hostR, oldR, hostR] = L4 at *
     have hl4 : L4.length = 3 := by rw [← hLL]; exact begun_r7
     rw [hl4] at hbk4
     obtain ⟨a0, n0, cap0, fr, HN0, e0, h1, h2, h3, h4, h5⟩ := hr4.open
     rw [hl4] at e0
     cases e0
     obtain ⟨b0, off0, rfl, _, k0, k1, k2, k3, k4, k5, k6⟩ := h4 (by omega)
     have h51 := h5 1 (by omega)
     clear h4 h5 hr4 HN0
     obtain ⟨Q, hQ, hQ1, hQu⟩ := cls_new y4
     have hQb := hQ.below
     have hQn := hQ.next
     clear hQu
     have HB2 := Lib.hid (fun x (hx : In Q x) => blk_below hbk2 (hQb _ hx))
     have HB4 := Lib.hid (fun x (hx : In Q x) => blk_below hbk4 (hQb _ hx))
     have HK := Lib.hid (fun x (hx : In Q x) => show x.cell? ⟨b0, off0 + 7, none⟩ = some (.slice (fr 1).sa (rep L4 1).store.length (fr 1).sc) ∧ x.cell? ⟨b0, off0 + 7 + 1, none⟩ = some (.slice (fr 1).ra (rep L4 1).refs.length (fr 1).rc) ∧ x.cell? ⟨b0, off0 + 7 + 2, none⟩ = some (.int .i64 (rep L4 1).gen) ∧ x.cell? ⟨b0, off0 + 7 + 3, none⟩ = some (.int .i64 (rep L4 1).phase) ∧ x.cell? ⟨b0, off0 + 7 + 4, none⟩ = some (.slice (fr 1).oa (rep L4 1).pend.objects.length (fr 1).oc) ∧ x.cell? ⟨b0, off0 + 7 + 5, none⟩ = some (.slice (fr 1).ua (rep L4 1).pend.updates.length (fr 1).uc) ∧ x.cell? ⟨b0, off0 + 7 + 6, none⟩ = some (.bool (rep L4 1).pend.force) from ⟨k0 1 x (by omega) (hQb _ hx), k1 1 x (by omega) (hQb _ hx), k2 1 x (by omega) (hQb _ hx), k3 1 x (by omega) (hQb _ hx), k4 1 x (by omega) (hQb _ hx), k5 1 x (by omega) (hQb _ hx), k6 1 x (by omega) (hQb _ hx)⟩)
     have HR2 := Lib.hid (fun x (hx : In Q x) => hr2.below (hQb _ hx))
     have HR4 := Lib.hid (fun x (hx : In Q x) => h51.below (hQb _ hx))
     have HBB := Lib.hid HK4.out.2.2
     clear hbk2 hbk4 hr2 h51 HK4 k0 k1 k2 k3 k4 k5 k6 h1 h2 h3
     go_wp2_with fail
     refine wp_region_held (S := In Q) (by kernel_rfl) ?_
     change wpAnyH _ _ _ _ _ _ _ _ (World.drew _)
     have hC0 := hQ.drew _ hQ1
     generalize y4.drew = x0 at hC0 ⊢
     clear hQ1
     refine wpAnyH_take (i := 0) (v := .int .i64 0) rfl (by kernel_rfl) (by kernel_rfl) (by kernel_rfl) (fun _ _ _ h => h) (Or.inl ⟨by rfl, fun w hSw => ?_⟩) hC0 ?_
     ·go_simp
     simp only [Act.put, List.getElem_toArray, List.getElem_cons_zero, List.getElem_cons_succ, List.setIfInBounds_toArray, List.set_cons_zero, List.set_cons_succ]
     refine wpAnyH_take (i := 1) (v := .bool true) rfl (by kernel_rfl) (by kernel_rfl) (by kernel_rfl) (fun _ _ _ h => h) (Or.inl ⟨by rfl, fun w hSw => ?_⟩) hC0 ?_
     ·go_simp
     simp only [Act.put, List.getElem_toArray, List.getElem_cons_zero, List.getElem_cons_succ, List.setIfInBounds_toArray, List.set_cons_zero, List.set_cons_succ]
     refine wpAnyH_take (i := 2) (v := .bool true) rfl (by kernel_rfl) (by kernel_rfl) (by kernel_rfl) (fun _ _ _ h => h) (Or.inl ⟨by rfl, fun w hSw => ?_⟩) hC0 ?_
     ·go_simp
     simp only [Act.put, List.getElem_toArray, List.getElem_cons_zero, List.getElem_cons_succ, List.setIfInBounds_toArray, List.set_cons_zero, List.set_cons_succ]
     refine wpAnyH_take (i := 3) (v := .int .i64 4) rfl (by kernel_rfl) (by kernel_rfl) (by kernel_rfl) (fun _ _ _ h => h) (Or.inl ⟨by rfl, fun w hSw => ?_⟩) hC0 ?_
     ·go_simp
     simp only [Act.put, List.getElem_toArray, List.getElem_cons_zero, List.getElem_cons_succ, List.setIfInBounds_toArray, List.set_cons_zero, List.set_cons_succ]
     refine wpAnyH_take (i := 4) (v := .bool true) rfl (by kernel_rfl) (by kernel_rfl) (by kernel_rfl) (fun _ _ _ h => h) (Or.inl ⟨by rfl, fun w hSw => ?_⟩) hC0 ?_
     ·go_simp
     simp only [Act.put, List.getElem_toArray, List.getElem_cons_zero, List.getElem_cons_succ, List.setIfInBounds_toArray, List.set_cons_zero, List.set_cons_succ]
     refine wpAnyH_take (i := 5) (v := .bool true) rfl (by kernel_rfl) (by kernel_rfl) (by kernel_rfl) (fun _ _ _ h => h) (Or.inl ⟨by rfl, fun w hSw => ?_⟩) hC0 ?_
     ·go_simp
     simp only [Act.put, List.getElem_toArray, List.getElem_cons_zero, List.getElem_cons_succ, List.setIfInBounds_toArray, List.set_cons_zero, List.set_cons_succ]
     refine wpAnyH_take (i := 6) (v := .bool true) rfl (by kernel_rfl) (by kernel_rfl) (by kernel_rfl) (fun _ _ _ h => h) (Or.inl ⟨by rfl, fun w hSw => ?_⟩) hC0 ?_
     ·go_simp
     simp only [Act.put, List.getElem_toArray, List.getElem_cons_zero, List.getElem_cons_succ, List.setIfInBounds_toArray, List.set_cons_zero, List.set_cons_succ]
     refine wpAnyH_take (i := 7) (v := .int .i64 0) rfl (by kernel_rfl) (by kernel_rfl) (by kernel_rfl) (fun _ _ _ h => h) (Or.inl ⟨by rfl, fun w hSw => ?_⟩) hC0 ?_
     ·go_simp
     simp only [Act.put, List.getElem_toArray, List.getElem_cons_zero, List.getElem_cons_succ, List.setIfInBounds_toArray, List.set_cons_zero, List.set_cons_succ]
     refine wpAnyH_take (i := 8) (v := .bool true) rfl (by kernel_rfl) (by kernel_rfl) (by kernel_rfl) (fun _ _ _ h => h) (Or.inl ⟨by rfl, fun w hSw => ?_⟩) hC0 ?_
     ·go_simp
     simp only [Act.put, List.getElem_toArray, List.getElem_cons_zero, List.getElem_cons_succ, List.setIfInBounds_toArray, List.set_cons_zero, List.set_cons_succ]
     refine wpAnyH_take (i := 9) (v := .bool true) rfl (by kernel_rfl) (by kernel_rfl) (by kernel_rfl) (fun _ _ _ h => h) (Or.inl ⟨by rfl, fun w hSw => ?_⟩) hC0 ?_
     ·go_simp
     simp only [Act.put, List.getElem_toArray, List.getElem_cons_zero, List.getElem_cons_succ, List.setIfInBounds_toArray, List.set_cons_zero, List.set_cons_succ]
     refine wpAnyH_take (i := 10) (v := .bool true) rfl (by kernel_rfl) (by kernel_rfl) (by kernel_rfl) (fun _ _ _ h => h) (Or.inl ⟨by rfl, fun w hSw => ?_⟩) hC0 ?_
     ·go_simp
     simp only [Act.put, List.getElem_toArray, List.getElem_cons_zero, List.getElem_cons_succ, List.setIfInBounds_toArray, List.set_cons_zero, List.set_cons_succ]
     refine wpAnyH_take (i := 11) (v := .int .i64 1) rfl (by kernel_rfl) (by kernel_rfl) (by kernel_rfl) (fun _ _ _ h => h) (Or.inl ⟨by rfl, fun w hSw => ?_⟩) hC0 ?_
     ·go_simp
     simp only [Act.put, List.getElem_toArray, List.getElem_cons_zero, List.getElem_cons_succ, List.setIfInBounds_toArray, List.set_cons_zero, List.set_cons_succ]
     refine wpAnyH_take (i := 12) (v := .bool true) rfl (by kernel_rfl) (by kernel_rfl) (by kernel_rfl) (fun _ _ _ h => h) (Or.inl ⟨by rfl, fun w hSw => ?_⟩) hC0 ?_
     ·go_simp
     simp only [Act.put, List.getElem_toArray, List.getElem_cons_zero, List.getElem_cons_succ, List.setIfInBounds_toArray, List.set_cons_zero, List.set_cons_succ]
     refine wpAnyH_take (i := 13) (v := .bool true) rfl (by kernel_rfl) (by kernel_rfl) (by kernel_rfl) (fun _ _ _ h => h) (Or.inl ⟨by rfl, fun w hSw => ?_⟩) hC0 ?_
     ·go_simp
     simp only [Act.put, List.getElem_toArray, List.getElem_cons_zero, List.getElem_cons_succ, List.setIfInBounds_toArray, List.set_cons_zero, List.set_cons_succ]
     refine wpAnyH_take (i := 14) (v := .bool true) rfl (by kernel_rfl) (by kernel_rfl) (by kernel_rfl) (fun _ _ _ h => h) (Or.inl ⟨by rfl, fun w hSw => ?_⟩) hC0 ?_
     ·go_simp
     simp only [Act.put, List.getElem_toArray, List.getElem_cons_zero, List.getElem_cons_succ, List.setIfInBounds_toArray, List.set_cons_zero, List.set_cons_succ]
     refine wpAnyH_take (i := 15) (v := .agg #[.slice sa1 RR.store.length sc1, .slice ra1 RR.refs.length rc1, .int .i64 RR.gen, .int .i64 RR.phase, .slice oa1 RR.pend.objects.length oc1, .slice ua1 RR.pend.updates.length uc1, .bool RR.pend.force]) rfl (by kernel_rfl) (by kernel_rfl) (by kernel_rfl) (fun _ _ _ h => h) (Or.inl ⟨by rfl, fun w hSw => ?_⟩) hC0 ?_
     ·have hbk := HB2.out _ hSw
      have y0 := block_cell (j := 0) hbk rfl
      have y1 := block_cell (j := 1) hbk rfl
      have y2 := block_cell (j := 2) hbk rfl
      have y3 := block_cell (j := 3) hbk rfl
      have y4 := block_cell (j := 4) hbk rfl
      have y5 := block_cell (j := 5) hbk rfl
      have y6 := block_cell (j := 6) hbk rfl
      clear hbk
      go_simp
     simp only [Act.put, List.getElem_toArray, List.getElem_cons_zero, List.getElem_cons_succ, List.setIfInBounds_toArray, List.set_cons_zero, List.set_cons_succ]
     refine wpAnyH_all (rs := [16]) (by kernel_rfl) (by simp) (fun j hj => ?_)
     obtain rfl : j = 16 := by simpa using hj
     refine Or.inl ?_
     go_wp2_with fail
     refine (host_any _).mono ?_
     rintro e x1 ⟨svt, rvt, ovt, uvt, rfl, hv, hb⟩
     obtain ⟨sah0, sch0, rfl⟩ := hv.store.vshape
     obtain ⟨⟨rah0, rch0⟩, rfl⟩ := hv.refs.shape
     obtain ⟨oah0, och0, rfl⟩ := hv.objs.vshape
     obtain ⟨⟨uah0, uch0⟩, rfl⟩ := hv.upds.shape
     have hC1 := hQn _ _ hC0 hb
     have Hh := Lib.hid hv
     clear hv hb
     simp only [repV]
     go_simp
     refine wpAnyH_all (rs := [17]) (by kernel_rfl) (by simp) (fun j hj => ?_)
     obtain rfl : j = 17 := by simpa using hj
     refine Or.inl ?_
     have HSm := Lib.hid (sameReplica_any RR hostR _ _ _ _ _ _ _ _ _ _ x1 (HR2.out _ hC1) Hh.out)
     rw [HF3.out] at HSm
     simp only [repV] at HSm
     go_wp2_with fail
     refine HSm.out.mono ?_
     rintro e x2 ⟨rfl, hb⟩
     have hC2 := hQn _ _ hC1 hb
     clear hb HSm Hh
     go_simp
     refine wpAnyH_take (i := 18) (v := .bool true) rfl (by kernel_rfl) (by kernel_rfl) (by kernel_rfl) (fun _ _ _ h => h) (Or.inl ⟨by rfl, fun w hSw => ?_⟩) hC2 ?_
     ·go_simp
     simp only [Act.put, List.getElem_toArray, List.getElem_cons_zero, List.getElem_cons_succ, List.setIfInBounds_toArray, List.set_cons_zero, List.set_cons_succ]
     refine wpAnyH_take (i := 19) (v := .bool true) rfl (by kernel_rfl) (by kernel_rfl) (by kernel_rfl) (fun _ _ _ h => h) (Or.inl ⟨by rfl, fun w hSw => ?_⟩) hC2 ?_
     ·go_simp
     simp only [Act.put, List.getElem_toArray, List.getElem_cons_zero, List.getElem_cons_succ, List.setIfInBounds_toArray, List.set_cons_zero, List.set_cons_succ]
     refine wpAnyH_take (i := 20) (v := .pointer (some ⟨D4, 0, none⟩)) rfl (by kernel_rfl) (by kernel_rfl) (by kernel_rfl) (fun _ _ _ h => h) (Or.inl ⟨by rfl, fun w hSw => ?_⟩) hC2 ?_
     ·go_simp
     simp only [Act.put, List.getElem_toArray, List.getElem_cons_zero, List.getElem_cons_succ, List.setIfInBounds_toArray, List.set_cons_zero, List.set_cons_succ]
     refine wpAnyH_take (i := 21) (v := .slice (some ⟨b0, off0, none⟩) 3 c6) rfl (by kernel_rfl) (by kernel_rfl) (by kernel_rfl) (fun _ _ _ h => h) (Or.inl ⟨by rfl, fun w hSw => ?_⟩) hC2 ?_
     ·have yy := block_cell (j := 0) (HB4.out _ hSw) rfl; go_simp
     simp only [Act.put, List.getElem_toArray, List.getElem_cons_zero, List.getElem_cons_succ, List.setIfInBounds_toArray, List.set_cons_zero, List.set_cons_succ]
     refine wpAnyH_take (i := 22) (v := .int .i64 3) rfl (by kernel_rfl) (by kernel_rfl) (by kernel_rfl) (fun _ _ _ h => h) (Or.inl ⟨by rfl, fun w hSw => ?_⟩) hC2 ?_
     ·go_simp
     simp only [Act.put, List.getElem_toArray, List.getElem_cons_zero, List.getElem_cons_succ, List.setIfInBounds_toArray, List.set_cons_zero, List.set_cons_succ]
     refine wpAnyH_take (i := 23) (v := .bool true) rfl (by kernel_rfl) (by kernel_rfl) (by kernel_rfl) (fun _ _ _ h => h) (Or.inl ⟨by rfl, fun w hSw => ?_⟩) hC2 ?_
     ·go_simp
     simp only [Act.put, List.getElem_toArray, List.getElem_cons_zero, List.getElem_cons_succ, List.setIfInBounds_toArray, List.set_cons_zero, List.set_cons_succ]
     refine wpAnyH_take (i := 24) (v := .bool true) rfl (by kernel_rfl) (by kernel_rfl) (by kernel_rfl) (fun _ _ _ h => h) (Or.inl ⟨by rfl, fun w hSw => ?_⟩) hC2 ?_
     ·go_simp
     simp only [Act.put, List.getElem_toArray, List.getElem_cons_zero, List.getElem_cons_succ, List.setIfInBounds_toArray, List.set_cons_zero, List.set_cons_succ]
     refine wpAnyH_take (i := 25) (v := .bool true) rfl (by kernel_rfl) (by kernel_rfl) (by kernel_rfl) (fun _ _ _ h => h) (Or.inl ⟨by rfl, fun w hSw => ?_⟩) hC2 ?_
     ·go_simp
     simp only [Act.put, List.getElem_toArray, List.getElem_cons_zero, List.getElem_cons_succ, List.setIfInBounds_toArray, List.set_cons_zero, List.set_cons_succ]
     refine wpAnyH_take (i := 26) (v := .pointer (some ⟨D4, 0, none⟩)) rfl (by kernel_rfl) (by kernel_rfl) (by kernel_rfl) (fun _ _ _ h => h) (Or.inl ⟨by rfl, fun w hSw => ?_⟩) hC2 ?_
     ·go_simp
     simp only [Act.put, List.getElem_toArray, List.getElem_cons_zero, List.getElem_cons_succ, List.setIfInBounds_toArray, List.set_cons_zero, List.set_cons_succ]
     refine wpAnyH_take (i := 27) (v := .slice (some ⟨b0, off0, none⟩) 3 c6) rfl (by kernel_rfl) (by kernel_rfl) (by kernel_rfl) (fun _ _ _ h => h) (Or.inl ⟨by rfl, fun w hSw => ?_⟩) hC2 ?_
     ·have yy := block_cell (j := 0) (HB4.out _ hSw) rfl; go_simp
     simp only [Act.put, List.getElem_toArray, List.getElem_cons_zero, List.getElem_cons_succ, List.setIfInBounds_toArray, List.set_cons_zero, List.set_cons_succ]
     refine wpAnyH_take (i := 28) (v := .pointer (some ⟨b0, off0 + 7, none⟩)) rfl (by kernel_rfl) (by kernel_rfl) (by kernel_rfl) (fun _ _ _ h => h) (Or.inl ⟨by rfl, fun w hSw => ?_⟩) hC2 ?_
     ·go_simp
     simp only [Act.put, List.getElem_toArray, List.getElem_cons_zero, List.getElem_cons_succ, List.setIfInBounds_toArray, List.set_cons_zero, List.set_cons_succ]
     refine wpAnyH_take (i := 29) (v := .agg #[.slice (fr 1).sa (rep L4 1).store.length (fr 1).sc, .slice (fr 1).ra (rep L4 1).refs.length (fr 1).rc, .int .i64 (rep L4 1).gen, .int .i64 (rep L4 1).phase, .slice (fr 1).oa (rep L4 1).pend.objects.length (fr 1).oc, .slice (fr 1).ua (rep L4 1).pend.updates.length (fr 1).uc, .bool (rep L4 1).pend.force]) rfl (by kernel_rfl) (by kernel_rfl) (by kernel_rfl) (fun _ _ _ h => h) (Or.inl ⟨by rfl, fun w hSw => ?_⟩) hC2 ?_
     ·obtain ⟨y0, y1, y2, y3, y4, y5, y6⟩ := HK.out _ hSw; go_simp
     simp only [Act.put, List.getElem_toArray, List.getElem_cons_zero, List.getElem_cons_succ, List.setIfInBounds_toArray, List.set_cons_zero, List.set_cons_succ]
     refine wpAnyH_all (rs := [30]) (by kernel_rfl) (by simp) (fun j hj => ?_)
     obtain rfl : j = 30 := by simpa using hj
     refine Or.inl ?_
     go_wp2_with fail
     refine (host_any _).mono ?_
     rintro e x3 ⟨svt, rvt, ovt, uvt, rfl, hv, hb⟩
     obtain ⟨sah1, sch1, rfl⟩ := hv.store.vshape
     obtain ⟨⟨rah1, rch1⟩, rfl⟩ := hv.refs.shape
     obtain ⟨oah1, och1, rfl⟩ := hv.objs.vshape
     obtain ⟨⟨uah1, uch1⟩, rfl⟩ := hv.upds.shape
     have hC3 := hQn _ _ hC2 hb
     have Hh := Lib.hid hv
     clear hv hb
     simp only [repV]
     go_simp
     refine wpAnyH_all (rs := [31]) (by kernel_rfl) (by simp) (fun j hj => ?_)
     obtain rfl : j = 31 := by simpa using hj
     refine Or.inl ?_
     have HSm := Lib.hid (sameReplica_any (rep L4 1) hostR _ _ _ _ _ _ _ _ _ _ x3 (HR4.out _ hC3) Hh.out)
     rw [HF6.out] at HSm
     simp only [repV] at HSm
     go_wp2_with fail
     refine HSm.out.mono ?_
     rintro e x4 ⟨rfl, hb⟩
     have hC4 := hQn _ _ hC3 hb
     clear hb HSm Hh
     go_simp
     refine wpAnyH_take (i := 32) (v := .bool true) rfl (by kernel_rfl) (by kernel_rfl) (by kernel_rfl) (fun _ _ _ h => h) (Or.inl ⟨by rfl, fun w hSw => ?_⟩) hC4 ?_
     ·go_simp
     simp only [Act.put, List.getElem_toArray, List.getElem_cons_zero, List.getElem_cons_succ, List.setIfInBounds_toArray, List.set_cons_zero, List.set_cons_succ]
     refine wpAnyH_all (rs := [33]) (by kernel_rfl) (by simp) (fun j hj => ?_)
     obtain rfl : j = 33 := by simpa using hj
     refine Or.inl ?_
     go_wp2_with fail
     first | refine ⟨hC4, ?_⟩ | skip
     first | refine ⟨by kernel_rfl, ?_⟩ | refine wpAnyH_done (by kernel_rfl) ?_ _
     have HEnd := Lib.hid (below_next HBB.out (hQb _ hC4))
     go_wp2_with fail
     go_ret
     exact ⟨rfl, HEnd.out⟩
end Go.Proofs.YtgkbalhkjolnmaaGreatDoor
