
/- VoteA: VoteA, VoteB, VoteC. -/
import Derived.Test.YtjdgpgfiomnjkaaGreatDoorQ24
import Derived.Test.YtjdgpgfiomnjkaaGreatDoorQ23
import Derived.StillTailTactics
import Derived.Test.YtjdgpgfiomnjkaaGreatDoorQ11
import Derived.Lib.AppendIntMem
namespace Go.Proofs.YtjdgpgfiomnjkaaGreatDoor
open Go.RowKit
set_option linter.unusedVariables false
set_option linter.unusedSimpArgs false
set_option linter.unusedSectionVars false
variable [Ghost]
def BoxB (J : Nat) (w : World) (s0 s1 s2 : ByteArray) (n0 n1 n2 : Int) : Prop :=
 w.heap[J]? = some (.cells #[.string s0, .string s1, .string s2, .int .i64 n0, .int .i64 n1, .int .i64 n2] 171 (0, 0))
theorem BoxB.below {J : Nat} {w w' : World} {s0 s1 s2 : ByteArray} {n0 n1 n2 : Int} (h : BoxB J w s0 s1 s2 n0 n1 n2) (hb : Below w.heap.size w w') : BoxB J w' s0 s1 s2 n0 n1 n2 :=
 (hb.block _ (lt_of_block h)).trans h
def BoxIs (J : Nat) (w : World) (b : List (ByteArray × Int)) : Prop :=
 ∃ s0 s1 s2 n0 n1 n2, b = [(s0, n0), (s1, n1), (s2, n2)] ∧ BoxB J w s0 s1 s2 n0 n1 n2 ∧ (0 ≤ n0 ∧ n0 ≤ 1000) ∧ (0 ≤ n1 ∧ n1 ≤ 1000) ∧ (0 ≤ n2 ∧ n2 ≤ 1000)
set_option maxRecDepth 100000 in
set_option maxHeartbeats 4000000 in
theorem cast_any {J B : Nat} {w : World} {l : List (ByteArray × Int)} (h : BoxIs J w l) (hB : B ≤ J) (s : ByteArray) :
  Calls Tryz.prog 131 #[.pointer (some ⟨J, 0, none⟩), .string s] w fun e w' => e = .returned (.tuple #[]) ∧ Below B w w' ∧
   ∃ s0 s1 s2 n0 n1 n2, castB l s = [(s0, n0), (s1, n1), (s2, n2)] ∧ BoxB J w' s0 s1 s2 n0 n1 n2 := by
 obtain ⟨s0, s1, s2, n0, n1, n2, rfl, h, b0, b1, b2⟩ := h
 obtain ⟨C, hC, hC1, _⟩ := cls_plain w
 have hCb := hC.below
 have hCg := cls_grown hC
 have hCd := hC.drew
 have HH := Lib.hid (fun x (hx : In C x) => h.below (hCb _ hx))
 have HB := Lib.hid (fun x (hx : In C x) => (hCb _ hx).mono (show B ≤ _ from Nat.le_of_lt (Nat.lt_of_le_of_lt hB (lt_of_block h))))
 have y0 := fun x (hx : In C x) => show x.cell? ⟨J, 0, none⟩ = some (.string s0) from block_cell (h.below (hCb _ hx)) rfl
 have y1 := fun x (hx : In C x) => show x.cell? ⟨J, 1, none⟩ = some (.string s1) from block_cell (h.below (hCb _ hx)) rfl
 have y2 := fun x (hx : In C x) => show x.cell? ⟨J, 2, none⟩ = some (.string s2) from block_cell (h.below (hCb _ hx)) rfl
 have y3 := fun x (hx : In C x) => show x.cell? ⟨J, 3, none⟩ = some (.int .i64 n0) from block_cell (h.below (hCb _ hx)) rfl
 have y4 := fun x (hx : In C x) => show x.cell? ⟨J, 4, none⟩ = some (.int .i64 n1) from block_cell (h.below (hCb _ hx)) rfl
 have y5 := fun x (hx : In C x) => show x.cell? ⟨J, 5, none⟩ = some (.int .i64 n2) from block_cell (h.below (hCb _ hx)) rfl
 have hf := fun x j (hx : In C x) => show x.frozen? ⟨J, j, none⟩ = false from block_free (h.below (hCb _ hx))
 clear h
 cases e0 : (s0.toList == s.toList)
 case true =>
  have d0 : s0 = s := by rw [text_eq] at e0; simpa using e0
  have Hc := Lib.hid (show castB [(s0, n0), (s1, n1), (s2, n2)] s = [(s, n0 + 1), (s1, n1), (s2, n2)] from by simp [castB, d0])
  clear d0
  have hw1 := wrap_in (n := n0 + 1) (by omega)
  go_enter Tryz.func131, Tryz.ntmps131
  go_wp2_with fail
  go_loopw [5] (fun i wr => i = .int .i64 0 ∧ In C wr) (fun i _ => 4 - (intOf i).toNat)
  case atStart => exact ⟨rfl, hC1⟩
  case round =>
   obtain ⟨rfl, hCw⟩ := hrel
   ·clear hC1
    go_wp2_with fail
    have hb5 : BoxB J (wr.setCell ⟨J, 0, none⟩ (.string s)) s s1 s2 n0 n1 n2 := block_setCell (j := 0) (HH.out _ hCw) _
    have hB5 := (HB.out _ hCw).setCell (p := ⟨J, 0, none⟩) hB (.string s)
    generalize wr.setCell ⟨J, 0, none⟩ (.string s) = x5 at *
    have hb6 : BoxB J x5.drew s s1 s2 n0 n1 n2 := hb5
    have hB6 := hB5.drew
    clear hb5 hB5 hCw y0 y1 y2 y3 y4 y5 hf HH HB hC hCb hCg hCd
    refine any_start (by kernel_rfl) rfl ?_
    generalize x5.drew = x6 at *
    refine any_take 0 (.pointer (some ⟨J, 0, none⟩)) rfl (by kernel_rfl) (by kernel_rfl) (by kernel_rfl) (fun _ _ _ h => h) (by rfl) (fun w => ?_) ?_
    ·go_simp
    simp only [Act.put, List.setIfInBounds_toArray, List.set_cons_zero, List.set_cons_succ]
    refine any_take 1 (.int .i64 0) rfl (by kernel_rfl) (by kernel_rfl) (by kernel_rfl) (fun _ _ _ h => h) (by rfl) (fun w => ?_) ?_
    ·go_simp
    simp only [Act.put, List.setIfInBounds_toArray, List.set_cons_zero, List.set_cons_succ]
    refine any_take 2 (.pointer (some ⟨J, 0, none⟩)) rfl (by kernel_rfl) (by kernel_rfl) (by kernel_rfl) (fun _ _ _ h => h) (by rfl) (fun w => ?_) ?_
    ·go_simp
    simp only [Act.put, List.setIfInBounds_toArray, List.set_cons_zero, List.set_cons_succ]
    refine any_take 3 (.pointer (some ⟨J, 3, none⟩)) rfl (by kernel_rfl) (by kernel_rfl) (by kernel_rfl) (fun _ _ _ h => h) (by rfl) (fun w => ?_) ?_
    ·go_simp
    simp only [Act.put, List.setIfInBounds_toArray, List.set_cons_zero, List.set_cons_succ]
    refine any_take 4 (.pointer (some ⟨J, 3, none⟩)) rfl (by kernel_rfl) (by kernel_rfl) (by kernel_rfl) (fun _ _ _ h => h) (by rfl) (fun w => ?_) ?_
    ·go_simp
    simp only [Act.put, List.setIfInBounds_toArray, List.set_cons_zero, List.set_cons_succ]
    refine any_take 7 (.pointer (some ⟨J, 0, none⟩)) rfl (by kernel_rfl) (by kernel_rfl) (by kernel_rfl) (fun _ _ _ h => h) (by rfl) (fun w => ?_) ?_
    ·go_simp
    simp only [Act.put, List.setIfInBounds_toArray, List.set_cons_zero, List.set_cons_succ]
    refine any_take 8 (.pointer (some ⟨J, 3, none⟩)) rfl (by kernel_rfl) (by kernel_rfl) (by kernel_rfl) (fun _ _ _ h => h) (by rfl) (fun w => ?_) ?_
    ·go_simp
    simp only [Act.put, List.setIfInBounds_toArray, List.set_cons_zero, List.set_cons_succ]
    have c6 : x6.cell? ⟨J, 3, none⟩ = some (.int .i64 n0) := block_cell hb6 rfl
    have f6 : x6.frozen? ⟨J, 3, none⟩ = false := block_free hb6
    have HE : BoxB J (x6.setCell ⟨J, 3, none⟩ (.int .i64 (n0 + 1))) s s1 s2 (n0 + 1) n1 n2 := block_setCell (j := 3) hb6 _
    have HBe := hB6.setCell (p := ⟨J, 3, none⟩) hB (.int .i64 (n0 + 1))
    have HE1 := Lib.hid HE
    have HBe1 := Lib.hid HBe
    clear HE HBe hb6 hB6
    refine any_one 5 (by kernel_rfl) rfl (by rfl) (fun K hK => ?_)
    go_wp2_with fail
    refine any_one 6 (by kernel_rfl) rfl (by rfl) (fun K hK => ?_)
    go_wp2_with fail
    refine any_one 9 (by kernel_rfl) rfl (by rfl) (fun K hK => ?_)
    go_wp2_with fail
    refine any_one 10 (by kernel_rfl) rfl (by rfl) (fun K hK => ?_)
    go_wp2_with fail
    refine any_done (by kernel_rfl) ?_
    go_wp2_with fail
    refine bodyPost_ret (results_none rfl _ _ _) rfl ?_
    exact ⟨rfl, HBe1.out, _, _, _, _, _, _, Hc.out, HE1.out⟩
 case false =>
  have d0 : ¬ s0 = s := by rw [text_eq] at e0; simpa using e0
  by_cases z0 : n0 = 0
  case pos =>
   have Hc := Lib.hid (show castB [(s0, n0), (s1, n1), (s2, n2)] s = [(s, n0 + 1), (s1, n1), (s2, n2)] from by simp [castB, z0])
   have zb : (n0 == 0) = true := by simpa using z0
   clear d0 z0
   have hw1 := wrap_in (n := n0 + 1) (by omega)
   go_enter Tryz.func131, Tryz.ntmps131
   go_wp2_with fail
   go_loopw [5] (fun i wr => i = .int .i64 0 ∧ In C wr) (fun i _ => 4 - (intOf i).toNat)
   case atStart => exact ⟨rfl, hC1⟩
   case round =>
    obtain ⟨rfl, hCw⟩ := hrel
    ·clear hC1
     go_wp2_with fail
     have hb5 : BoxB J (wr.setCell ⟨J, 0, none⟩ (.string s)) s s1 s2 n0 n1 n2 := block_setCell (j := 0) (HH.out _ hCw) _
     have hB5 := (HB.out _ hCw).setCell (p := ⟨J, 0, none⟩) hB (.string s)
     generalize wr.setCell ⟨J, 0, none⟩ (.string s) = x5 at *
     have hb6 : BoxB J x5.drew s s1 s2 n0 n1 n2 := hb5
     have hB6 := hB5.drew
     clear hb5 hB5 hCw y0 y1 y2 y3 y4 y5 hf HH HB hC hCb hCg hCd
     refine any_start (by kernel_rfl) rfl ?_
     generalize x5.drew = x6 at *
     refine any_take 0 (.pointer (some ⟨J, 0, none⟩)) rfl (by kernel_rfl) (by kernel_rfl) (by kernel_rfl) (fun _ _ _ h => h) (by rfl) (fun w => ?_) ?_
     ·go_simp
     simp only [Act.put, List.setIfInBounds_toArray, List.set_cons_zero, List.set_cons_succ]
     refine any_take 1 (.int .i64 0) rfl (by kernel_rfl) (by kernel_rfl) (by kernel_rfl) (fun _ _ _ h => h) (by rfl) (fun w => ?_) ?_
     ·go_simp
     simp only [Act.put, List.setIfInBounds_toArray, List.set_cons_zero, List.set_cons_succ]
     refine any_take 2 (.pointer (some ⟨J, 0, none⟩)) rfl (by kernel_rfl) (by kernel_rfl) (by kernel_rfl) (fun _ _ _ h => h) (by rfl) (fun w => ?_) ?_
     ·go_simp
     simp only [Act.put, List.setIfInBounds_toArray, List.set_cons_zero, List.set_cons_succ]
     refine any_take 3 (.pointer (some ⟨J, 3, none⟩)) rfl (by kernel_rfl) (by kernel_rfl) (by kernel_rfl) (fun _ _ _ h => h) (by rfl) (fun w => ?_) ?_
     ·go_simp
     simp only [Act.put, List.setIfInBounds_toArray, List.set_cons_zero, List.set_cons_succ]
     refine any_take 4 (.pointer (some ⟨J, 3, none⟩)) rfl (by kernel_rfl) (by kernel_rfl) (by kernel_rfl) (fun _ _ _ h => h) (by rfl) (fun w => ?_) ?_
     ·go_simp
     simp only [Act.put, List.setIfInBounds_toArray, List.set_cons_zero, List.set_cons_succ]
     refine any_take 7 (.pointer (some ⟨J, 0, none⟩)) rfl (by kernel_rfl) (by kernel_rfl) (by kernel_rfl) (fun _ _ _ h => h) (by rfl) (fun w => ?_) ?_
     ·go_simp
     simp only [Act.put, List.setIfInBounds_toArray, List.set_cons_zero, List.set_cons_succ]
     refine any_take 8 (.pointer (some ⟨J, 3, none⟩)) rfl (by kernel_rfl) (by kernel_rfl) (by kernel_rfl) (fun _ _ _ h => h) (by rfl) (fun w => ?_) ?_
     ·go_simp
     simp only [Act.put, List.setIfInBounds_toArray, List.set_cons_zero, List.set_cons_succ]
     have c6 : x6.cell? ⟨J, 3, none⟩ = some (.int .i64 n0) := block_cell hb6 rfl
     have f6 : x6.frozen? ⟨J, 3, none⟩ = false := block_free hb6
     have HE : BoxB J (x6.setCell ⟨J, 3, none⟩ (.int .i64 (n0 + 1))) s s1 s2 (n0 + 1) n1 n2 := block_setCell (j := 3) hb6 _
     have HBe := hB6.setCell (p := ⟨J, 3, none⟩) hB (.int .i64 (n0 + 1))
     have HE1 := Lib.hid HE
     have HBe1 := Lib.hid HBe
     clear HE HBe hb6 hB6
     refine any_one 5 (by kernel_rfl) rfl (by rfl) (fun K hK => ?_)
     go_wp2_with fail
     refine any_one 6 (by kernel_rfl) rfl (by rfl) (fun K hK => ?_)
     go_wp2_with fail
     refine any_one 9 (by kernel_rfl) rfl (by rfl) (fun K hK => ?_)
     go_wp2_with fail
     refine any_one 10 (by kernel_rfl) rfl (by rfl) (fun K hK => ?_)
     go_wp2_with fail
     refine any_done (by kernel_rfl) ?_
     go_wp2_with fail
     refine bodyPost_ret (results_none rfl _ _ _) rfl ?_
     exact ⟨rfl, HBe1.out, _, _, _, _, _, _, Hc.out, HE1.out⟩
  case neg =>
   have zb0 : (n0 == 0) = false := by simpa using z0
   cases e1 : (s1.toList == s.toList)
   case true =>
    have d1 : s1 = s := by rw [text_eq] at e1; simpa using e1
    have Hc := Lib.hid (show castB [(s0, n0), (s1, n1), (s2, n2)] s = [(s0, n0), (s, n1 + 1), (s2, n2)] from by simp [castB, d1, d0, z0])
    clear d1
    have hw1 := wrap_in (n := n1 + 1) (by omega)
    go_enter Tryz.func131, Tryz.ntmps131
    go_wp2_with fail
    go_loopw [5] (fun i wr => i = .int .i64 0 ∧ In C wr ∨ i = .int .i64 1 ∧ In C wr) (fun i _ => 4 - (intOf i).toNat)
    case atStart => exact .inl ⟨rfl, hC1⟩
    case round =>
     rcases hrel with ⟨rfl, hCw⟩ | ⟨rfl, hCw⟩
     ·clear hC1
      go_wp2_with fail
      go_roundw
      case rel => exact .inr (⟨rfl, hCw⟩)
      case measure => simp [intOf]
     ·clear hC1
      go_wp2_with fail
      have hb5 : BoxB J (wr.setCell ⟨J, 1, none⟩ (.string s)) s0 s s2 n0 n1 n2 := block_setCell (j := 1) (HH.out _ hCw) _
      have hB5 := (HB.out _ hCw).setCell (p := ⟨J, 1, none⟩) hB (.string s)
      generalize wr.setCell ⟨J, 1, none⟩ (.string s) = x5 at *
      have hb6 : BoxB J x5.drew s0 s s2 n0 n1 n2 := hb5
      have hB6 := hB5.drew
      clear hb5 hB5 hCw y0 y1 y2 y3 y4 y5 hf HH HB hC hCb hCg hCd
      refine any_start (by kernel_rfl) rfl ?_
      generalize x5.drew = x6 at *
      refine any_take 0 (.pointer (some ⟨J, 0, none⟩)) rfl (by kernel_rfl) (by kernel_rfl) (by kernel_rfl) (fun _ _ _ h => h) (by rfl) (fun w => ?_) ?_
      ·go_simp
      simp only [Act.put, List.setIfInBounds_toArray, List.set_cons_zero, List.set_cons_succ]
      refine any_take 1 (.int .i64 1) rfl (by kernel_rfl) (by kernel_rfl) (by kernel_rfl) (fun _ _ _ h => h) (by rfl) (fun w => ?_) ?_
      ·go_simp
      simp only [Act.put, List.setIfInBounds_toArray, List.set_cons_zero, List.set_cons_succ]
      refine any_take 2 (.pointer (some ⟨J, 0, none⟩)) rfl (by kernel_rfl) (by kernel_rfl) (by kernel_rfl) (fun _ _ _ h => h) (by rfl) (fun w => ?_) ?_
      ·go_simp
      simp only [Act.put, List.setIfInBounds_toArray, List.set_cons_zero, List.set_cons_succ]
      refine any_take 3 (.pointer (some ⟨J, 3, none⟩)) rfl (by kernel_rfl) (by kernel_rfl) (by kernel_rfl) (fun _ _ _ h => h) (by rfl) (fun w => ?_) ?_
      ·go_simp
      simp only [Act.put, List.setIfInBounds_toArray, List.set_cons_zero, List.set_cons_succ]
      refine any_take 4 (.pointer (some ⟨J, 4, none⟩)) rfl (by kernel_rfl) (by kernel_rfl) (by kernel_rfl) (fun _ _ _ h => h) (by rfl) (fun w => ?_) ?_
      ·go_simp
      simp only [Act.put, List.setIfInBounds_toArray, List.set_cons_zero, List.set_cons_succ]
      refine any_take 7 (.pointer (some ⟨J, 0, none⟩)) rfl (by kernel_rfl) (by kernel_rfl) (by kernel_rfl) (fun _ _ _ h => h) (by rfl) (fun w => ?_) ?_
      ·go_simp
      simp only [Act.put, List.setIfInBounds_toArray, List.set_cons_zero, List.set_cons_succ]
      refine any_take 8 (.pointer (some ⟨J, 3, none⟩)) rfl (by kernel_rfl) (by kernel_rfl) (by kernel_rfl) (fun _ _ _ h => h) (by rfl) (fun w => ?_) ?_
      ·go_simp
      simp only [Act.put, List.setIfInBounds_toArray, List.set_cons_zero, List.set_cons_succ]
      have c6 : x6.cell? ⟨J, 4, none⟩ = some (.int .i64 n1) := block_cell hb6 rfl
      have f6 : x6.frozen? ⟨J, 4, none⟩ = false := block_free hb6
      have HE : BoxB J (x6.setCell ⟨J, 4, none⟩ (.int .i64 (n1 + 1))) s0 s s2 n0 (n1 + 1) n2 := block_setCell (j := 4) hb6 _
      have HBe := hB6.setCell (p := ⟨J, 4, none⟩) hB (.int .i64 (n1 + 1))
      have HE1 := Lib.hid HE
      have HBe1 := Lib.hid HBe
      clear HE HBe hb6 hB6
      refine any_one 5 (by kernel_rfl) rfl (by rfl) (fun K hK => ?_)
      go_wp2_with fail
      refine any_one 6 (by kernel_rfl) rfl (by rfl) (fun K hK => ?_)
      go_wp2_with fail
      refine any_one 9 (by kernel_rfl) rfl (by rfl) (fun K hK => ?_)
      go_wp2_with fail
      refine any_one 10 (by kernel_rfl) rfl (by rfl) (fun K hK => ?_)
      go_wp2_with fail
      refine any_done (by kernel_rfl) ?_
      go_wp2_with fail
      refine bodyPost_ret (results_none rfl _ _ _) rfl ?_
      exact ⟨rfl, HBe1.out, _, _, _, _, _, _, Hc.out, HE1.out⟩
   case false =>
    have d1 : ¬ s1 = s := by rw [text_eq] at e1; simpa using e1
    by_cases z1 : n1 = 0
    case pos =>
     have Hc := Lib.hid (show castB [(s0, n0), (s1, n1), (s2, n2)] s = [(s0, n0), (s, n1 + 1), (s2, n2)] from by simp [castB, z1, d0, z0])
     have zb : (n1 == 0) = true := by simpa using z1
     clear d1 z1
     have hw1 := wrap_in (n := n1 + 1) (by omega)
     go_enter Tryz.func131, Tryz.ntmps131
     go_wp2_with fail
     go_loopw [5] (fun i wr => i = .int .i64 0 ∧ In C wr ∨ i = .int .i64 1 ∧ In C wr) (fun i _ => 4 - (intOf i).toNat)
     case atStart => exact .inl ⟨rfl, hC1⟩
     case round =>
      rcases hrel with ⟨rfl, hCw⟩ | ⟨rfl, hCw⟩
      ·clear hC1
       go_wp2_with fail
       go_roundw
       case rel => exact .inr (⟨rfl, hCw⟩)
       case measure => simp [intOf]
      ·clear hC1
       go_wp2_with fail
       have hb5 : BoxB J (wr.setCell ⟨J, 1, none⟩ (.string s)) s0 s s2 n0 n1 n2 := block_setCell (j := 1) (HH.out _ hCw) _
       have hB5 := (HB.out _ hCw).setCell (p := ⟨J, 1, none⟩) hB (.string s)
       generalize wr.setCell ⟨J, 1, none⟩ (.string s) = x5 at *
       have hb6 : BoxB J x5.drew s0 s s2 n0 n1 n2 := hb5
       have hB6 := hB5.drew
       clear hb5 hB5 hCw y0 y1 y2 y3 y4 y5 hf HH HB hC hCb hCg hCd
       refine any_start (by kernel_rfl) rfl ?_
       generalize x5.drew = x6 at *
       refine any_take 0 (.pointer (some ⟨J, 0, none⟩)) rfl (by kernel_rfl) (by kernel_rfl) (by kernel_rfl) (fun _ _ _ h => h) (by rfl) (fun w => ?_) ?_
       ·go_simp
       simp only [Act.put, List.setIfInBounds_toArray, List.set_cons_zero, List.set_cons_succ]
       refine any_take 1 (.int .i64 1) rfl (by kernel_rfl) (by kernel_rfl) (by kernel_rfl) (fun _ _ _ h => h) (by rfl) (fun w => ?_) ?_
       ·go_simp
       simp only [Act.put, List.setIfInBounds_toArray, List.set_cons_zero, List.set_cons_succ]
       refine any_take 2 (.pointer (some ⟨J, 0, none⟩)) rfl (by kernel_rfl) (by kernel_rfl) (by kernel_rfl) (fun _ _ _ h => h) (by rfl) (fun w => ?_) ?_
       ·go_simp
       simp only [Act.put, List.setIfInBounds_toArray, List.set_cons_zero, List.set_cons_succ]
       refine any_take 3 (.pointer (some ⟨J, 3, none⟩)) rfl (by kernel_rfl) (by kernel_rfl) (by kernel_rfl) (fun _ _ _ h => h) (by rfl) (fun w => ?_) ?_
       ·go_simp
       simp only [Act.put, List.setIfInBounds_toArray, List.set_cons_zero, List.set_cons_succ]
       refine any_take 4 (.pointer (some ⟨J, 4, none⟩)) rfl (by kernel_rfl) (by kernel_rfl) (by kernel_rfl) (fun _ _ _ h => h) (by rfl) (fun w => ?_) ?_
       ·go_simp
       simp only [Act.put, List.setIfInBounds_toArray, List.set_cons_zero, List.set_cons_succ]
       refine any_take 7 (.pointer (some ⟨J, 0, none⟩)) rfl (by kernel_rfl) (by kernel_rfl) (by kernel_rfl) (fun _ _ _ h => h) (by rfl) (fun w => ?_) ?_
       ·go_simp
       simp only [Act.put, List.setIfInBounds_toArray, List.set_cons_zero, List.set_cons_succ]
       refine any_take 8 (.pointer (some ⟨J, 3, none⟩)) rfl (by kernel_rfl) (by kernel_rfl) (by kernel_rfl) (fun _ _ _ h => h) (by rfl) (fun w => ?_) ?_
       ·go_simp
       simp only [Act.put, List.setIfInBounds_toArray, List.set_cons_zero, List.set_cons_succ]
       have c6 : x6.cell? ⟨J, 4, none⟩ = some (.int .i64 n1) := block_cell hb6 rfl
       have f6 : x6.frozen? ⟨J, 4, none⟩ = false := block_free hb6
       have HE : BoxB J (x6.setCell ⟨J, 4, none⟩ (.int .i64 (n1 + 1))) s0 s s2 n0 (n1 + 1) n2 := block_setCell (j := 4) hb6 _
       have HBe := hB6.setCell (p := ⟨J, 4, none⟩) hB (.int .i64 (n1 + 1))
       have HE1 := Lib.hid HE
       have HBe1 := Lib.hid HBe
       clear HE HBe hb6 hB6
       refine any_one 5 (by kernel_rfl) rfl (by rfl) (fun K hK => ?_)
       go_wp2_with fail
       refine any_one 6 (by kernel_rfl) rfl (by rfl) (fun K hK => ?_)
       go_wp2_with fail
       refine any_one 9 (by kernel_rfl) rfl (by rfl) (fun K hK => ?_)
       go_wp2_with fail
       refine any_one 10 (by kernel_rfl) rfl (by rfl) (fun K hK => ?_)
       go_wp2_with fail
       refine any_done (by kernel_rfl) ?_
       go_wp2_with fail
       refine bodyPost_ret (results_none rfl _ _ _) rfl ?_
       exact ⟨rfl, HBe1.out, _, _, _, _, _, _, Hc.out, HE1.out⟩
    case neg =>
     have zb1 : (n1 == 0) = false := by simpa using z1
     cases e2 : (s2.toList == s.toList)
     case true =>
      have d2 : s2 = s := by rw [text_eq] at e2; simpa using e2
      have Hc := Lib.hid (show castB [(s0, n0), (s1, n1), (s2, n2)] s = [(s0, n0), (s1, n1), (s, n2 + 1)] from by simp [castB, d2, d0, z0, d1, z1])
      clear d2
      have hw1 := wrap_in (n := n2 + 1) (by omega)
      go_enter Tryz.func131, Tryz.ntmps131
      go_wp2_with fail
      go_loopw [5] (fun i wr => i = .int .i64 0 ∧ In C wr ∨ i = .int .i64 1 ∧ In C wr ∨ i = .int .i64 2 ∧ In C wr) (fun i _ => 4 - (intOf i).toNat)
      case atStart => exact .inl ⟨rfl, hC1⟩
      case round =>
       rcases hrel with ⟨rfl, hCw⟩ | ⟨rfl, hCw⟩ | ⟨rfl, hCw⟩
       ·clear hC1
        go_wp2_with fail
        go_roundw
        case rel => exact .inr (.inl ⟨rfl, hCw⟩)
        case measure => simp [intOf]
       ·clear hC1
        go_wp2_with fail
        go_roundw
        case rel => exact .inr (.inr (⟨rfl, hCw⟩))
        case measure => simp [intOf]
       ·clear hC1
        go_wp2_with fail
        have hb5 : BoxB J (wr.setCell ⟨J, 2, none⟩ (.string s)) s0 s1 s n0 n1 n2 := block_setCell (j := 2) (HH.out _ hCw) _
        have hB5 := (HB.out _ hCw).setCell (p := ⟨J, 2, none⟩) hB (.string s)
        generalize wr.setCell ⟨J, 2, none⟩ (.string s) = x5 at *
        have hb6 : BoxB J x5.drew s0 s1 s n0 n1 n2 := hb5
        have hB6 := hB5.drew
        clear hb5 hB5 hCw y0 y1 y2 y3 y4 y5 hf HH HB hC hCb hCg hCd
        refine any_start (by kernel_rfl) rfl ?_
        generalize x5.drew = x6 at *
        refine any_take 0 (.pointer (some ⟨J, 0, none⟩)) rfl (by kernel_rfl) (by kernel_rfl) (by kernel_rfl) (fun _ _ _ h => h) (by rfl) (fun w => ?_) ?_
        ·go_simp
        simp only [Act.put, List.setIfInBounds_toArray, List.set_cons_zero, List.set_cons_succ]
        refine any_take 1 (.int .i64 2) rfl (by kernel_rfl) (by kernel_rfl) (by kernel_rfl) (fun _ _ _ h => h) (by rfl) (fun w => ?_) ?_
        ·go_simp
        simp only [Act.put, List.setIfInBounds_toArray, List.set_cons_zero, List.set_cons_succ]
        refine any_take 2 (.pointer (some ⟨J, 0, none⟩)) rfl (by kernel_rfl) (by kernel_rfl) (by kernel_rfl) (fun _ _ _ h => h) (by rfl) (fun w => ?_) ?_
        ·go_simp
        simp only [Act.put, List.setIfInBounds_toArray, List.set_cons_zero, List.set_cons_succ]
        refine any_take 3 (.pointer (some ⟨J, 3, none⟩)) rfl (by kernel_rfl) (by kernel_rfl) (by kernel_rfl) (fun _ _ _ h => h) (by rfl) (fun w => ?_) ?_
        ·go_simp
        simp only [Act.put, List.setIfInBounds_toArray, List.set_cons_zero, List.set_cons_succ]
        refine any_take 4 (.pointer (some ⟨J, 5, none⟩)) rfl (by kernel_rfl) (by kernel_rfl) (by kernel_rfl) (fun _ _ _ h => h) (by rfl) (fun w => ?_) ?_
        ·go_simp
        simp only [Act.put, List.setIfInBounds_toArray, List.set_cons_zero, List.set_cons_succ]
        refine any_take 7 (.pointer (some ⟨J, 0, none⟩)) rfl (by kernel_rfl) (by kernel_rfl) (by kernel_rfl) (fun _ _ _ h => h) (by rfl) (fun w => ?_) ?_
        ·go_simp
        simp only [Act.put, List.setIfInBounds_toArray, List.set_cons_zero, List.set_cons_succ]
        refine any_take 8 (.pointer (some ⟨J, 3, none⟩)) rfl (by kernel_rfl) (by kernel_rfl) (by kernel_rfl) (fun _ _ _ h => h) (by rfl) (fun w => ?_) ?_
        ·go_simp
        simp only [Act.put, List.setIfInBounds_toArray, List.set_cons_zero, List.set_cons_succ]
        have c6 : x6.cell? ⟨J, 5, none⟩ = some (.int .i64 n2) := block_cell hb6 rfl
        have f6 : x6.frozen? ⟨J, 5, none⟩ = false := block_free hb6
        have HE : BoxB J (x6.setCell ⟨J, 5, none⟩ (.int .i64 (n2 + 1))) s0 s1 s n0 n1 (n2 + 1) := block_setCell (j := 5) hb6 _
        have HBe := hB6.setCell (p := ⟨J, 5, none⟩) hB (.int .i64 (n2 + 1))
        have HE1 := Lib.hid HE
        have HBe1 := Lib.hid HBe
        clear HE HBe hb6 hB6
        refine any_one 5 (by kernel_rfl) rfl (by rfl) (fun K hK => ?_)
        go_wp2_with fail
        refine any_one 6 (by kernel_rfl) rfl (by rfl) (fun K hK => ?_)
        go_wp2_with fail
        refine any_one 9 (by kernel_rfl) rfl (by rfl) (fun K hK => ?_)
        go_wp2_with fail
        refine any_one 10 (by kernel_rfl) rfl (by rfl) (fun K hK => ?_)
        go_wp2_with fail
        refine any_done (by kernel_rfl) ?_
        go_wp2_with fail
        refine bodyPost_ret (results_none rfl _ _ _) rfl ?_
        exact ⟨rfl, HBe1.out, _, _, _, _, _, _, Hc.out, HE1.out⟩
     case false =>
      have d2 : ¬ s2 = s := by rw [text_eq] at e2; simpa using e2
      by_cases z2 : n2 = 0
      case pos =>
       have Hc := Lib.hid (show castB [(s0, n0), (s1, n1), (s2, n2)] s = [(s0, n0), (s1, n1), (s, n2 + 1)] from by simp [castB, z2, d0, z0, d1, z1])
       have zb : (n2 == 0) = true := by simpa using z2
       clear d2 z2
       have hw1 := wrap_in (n := n2 + 1) (by omega)
       go_enter Tryz.func131, Tryz.ntmps131
       go_wp2_with fail
       go_loopw [5] (fun i wr => i = .int .i64 0 ∧ In C wr ∨ i = .int .i64 1 ∧ In C wr ∨ i = .int .i64 2 ∧ In C wr) (fun i _ => 4 - (intOf i).toNat)
       case atStart => exact .inl ⟨rfl, hC1⟩
       case round =>
        rcases hrel with ⟨rfl, hCw⟩ | ⟨rfl, hCw⟩ | ⟨rfl, hCw⟩
        ·clear hC1
         go_wp2_with fail
         go_roundw
         case rel => exact .inr (.inl ⟨rfl, hCw⟩)
         case measure => simp [intOf]
        ·clear hC1
         go_wp2_with fail
         go_roundw
         case rel => exact .inr (.inr (⟨rfl, hCw⟩))
         case measure => simp [intOf]
        ·clear hC1
         go_wp2_with fail
         have hb5 : BoxB J (wr.setCell ⟨J, 2, none⟩ (.string s)) s0 s1 s n0 n1 n2 := block_setCell (j := 2) (HH.out _ hCw) _
         have hB5 := (HB.out _ hCw).setCell (p := ⟨J, 2, none⟩) hB (.string s)
         generalize wr.setCell ⟨J, 2, none⟩ (.string s) = x5 at *
         have hb6 : BoxB J x5.drew s0 s1 s n0 n1 n2 := hb5
         have hB6 := hB5.drew
         clear hb5 hB5 hCw y0 y1 y2 y3 y4 y5 hf HH HB hC hCb hCg hCd
         refine any_start (by kernel_rfl) rfl ?_
         generalize x5.drew = x6 at *
         refine any_take 0 (.pointer (some ⟨J, 0, none⟩)) rfl (by kernel_rfl) (by kernel_rfl) (by kernel_rfl) (fun _ _ _ h => h) (by rfl) (fun w => ?_) ?_
         ·go_simp
         simp only [Act.put, List.setIfInBounds_toArray, List.set_cons_zero, List.set_cons_succ]
         refine any_take 1 (.int .i64 2) rfl (by kernel_rfl) (by kernel_rfl) (by kernel_rfl) (fun _ _ _ h => h) (by rfl) (fun w => ?_) ?_
         ·go_simp
         simp only [Act.put, List.setIfInBounds_toArray, List.set_cons_zero, List.set_cons_succ]
         refine any_take 2 (.pointer (some ⟨J, 0, none⟩)) rfl (by kernel_rfl) (by kernel_rfl) (by kernel_rfl) (fun _ _ _ h => h) (by rfl) (fun w => ?_) ?_
         ·go_simp
         simp only [Act.put, List.setIfInBounds_toArray, List.set_cons_zero, List.set_cons_succ]
         refine any_take 3 (.pointer (some ⟨J, 3, none⟩)) rfl (by kernel_rfl) (by kernel_rfl) (by kernel_rfl) (fun _ _ _ h => h) (by rfl) (fun w => ?_) ?_
         ·go_simp
         simp only [Act.put, List.setIfInBounds_toArray, List.set_cons_zero, List.set_cons_succ]
         refine any_take 4 (.pointer (some ⟨J, 5, none⟩)) rfl (by kernel_rfl) (by kernel_rfl) (by kernel_rfl) (fun _ _ _ h => h) (by rfl) (fun w => ?_) ?_
         ·go_simp
         simp only [Act.put, List.setIfInBounds_toArray, List.set_cons_zero, List.set_cons_succ]
         refine any_take 7 (.pointer (some ⟨J, 0, none⟩)) rfl (by kernel_rfl) (by kernel_rfl) (by kernel_rfl) (fun _ _ _ h => h) (by rfl) (fun w => ?_) ?_
         ·go_simp
         simp only [Act.put, List.setIfInBounds_toArray, List.set_cons_zero, List.set_cons_succ]
         refine any_take 8 (.pointer (some ⟨J, 3, none⟩)) rfl (by kernel_rfl) (by kernel_rfl) (by kernel_rfl) (fun _ _ _ h => h) (by rfl) (fun w => ?_) ?_
         ·go_simp
         simp only [Act.put, List.setIfInBounds_toArray, List.set_cons_zero, List.set_cons_succ]
         have c6 : x6.cell? ⟨J, 5, none⟩ = some (.int .i64 n2) := block_cell hb6 rfl
         have f6 : x6.frozen? ⟨J, 5, none⟩ = false := block_free hb6
         have HE : BoxB J (x6.setCell ⟨J, 5, none⟩ (.int .i64 (n2 + 1))) s0 s1 s n0 n1 (n2 + 1) := block_setCell (j := 5) hb6 _
         have HBe := hB6.setCell (p := ⟨J, 5, none⟩) hB (.int .i64 (n2 + 1))
         have HE1 := Lib.hid HE
         have HBe1 := Lib.hid HBe
         clear HE HBe hb6 hB6
         refine any_one 5 (by kernel_rfl) rfl (by rfl) (fun K hK => ?_)
         go_wp2_with fail
         refine any_one 6 (by kernel_rfl) rfl (by rfl) (fun K hK => ?_)
         go_wp2_with fail
         refine any_one 9 (by kernel_rfl) rfl (by rfl) (fun K hK => ?_)
         go_wp2_with fail
         refine any_one 10 (by kernel_rfl) rfl (by rfl) (fun K hK => ?_)
         go_wp2_with fail
         refine any_done (by kernel_rfl) ?_
         go_wp2_with fail
         refine bodyPost_ret (results_none rfl _ _ _) rfl ?_
         exact ⟨rfl, HBe1.out, _, _, _, _, _, _, Hc.out, HE1.out⟩
      case neg =>
       have zb2 : (n2 == 0) = false := by simpa using z2
       have Hc := Lib.hid (show castB [(s0, n0), (s1, n1), (s2, n2)] s = [(s0, n0), (s1, n1), (s2, n2)] from by simp [castB, d0, d1, d2, z0, z1, z2])
       clear b0 b1 b2 d0 d1 d2
       go_enter Tryz.func131, Tryz.ntmps131
       go_wp2_with fail
       go_loopw [5] (fun i wr => i = .int .i64 0 ∧ In C wr ∨ i = .int .i64 1 ∧ In C wr ∨ i = .int .i64 2 ∧ In C wr ∨ i = .int .i64 3 ∧ In C wr) (fun i _ => 4 - (intOf i).toNat)
       case atStart => exact .inl ⟨rfl, hC1⟩
       case round =>
        rcases hrel with ⟨rfl, hCw⟩ | ⟨rfl, hCw⟩ | ⟨rfl, hCw⟩ | ⟨rfl, hCw⟩
        ·clear hC1
         go_wp2_with fail
         go_roundw
         case rel => exact .inr (.inl ⟨rfl, hCw⟩)
         case measure => simp [intOf]
        ·clear hC1
         go_wp2_with fail
         go_roundw
         case rel => exact .inr (.inr (.inl ⟨rfl, hCw⟩))
         case measure => simp [intOf]
        ·clear hC1
         go_wp2_with fail
         go_roundw
         case rel => exact .inr (.inr (.inr (⟨rfl, hCw⟩)))
         case measure => simp [intOf]
        ·clear hC1
         go_wp2_with fail
         go_end0
         exact ⟨rfl, HB.out _ hCw, _, _, _, _, _, _, Hc.out, HH.out _ hCw⟩
end Go.Proofs.YtjdgpgfiomnjkaaGreatDoor
namespace Go.Proofs.YtjdgpgfiomnjkaaGreatDoor
open Go.RowKit
set_option linter.unusedVariables false
set_option linter.unusedSimpArgs false
set_option linter.unusedSectionVars false
variable [Ghost]
def sa (l : List ByteArray) (i : Nat) : ByteArray := at_ ByteArray.empty l i
theorem sa_lt {l : List ByteArray} {i : Nat} (h : i < l.length) : sa l i = l[i] := at_lt h
def StrsV (S : Nat → Prop) (w : World) (v : Value) (l : List ByteArray) : Prop :=
 Sl S w v 1 16 l.length (fun i => [.string (sa l i)]) ∧ ∀ s ∈ l, s.size ≤ 140737488351232
theorem StrsV.below {S : Nat → Prop} {w w' : World} {v : Value} {l : List ByteArray} (h : StrsV S w v l) (hb : Below w.heap.size w w') : StrsV S w' v l := ⟨h.1.below hb, h.2⟩
theorem StrsV.weaken {S S' : Nat → Prop} {w : World} {v : Value} {l : List ByteArray} (h : StrsV S w v l) (hs : ∀ b, S b → S' b) : StrsV S' w v l := ⟨h.1.weaken hs, h.2⟩
theorem StrsV.same {S : Nat → Prop} {w w' : World} {v : Value} {l : List ByteArray} (h : StrsV S w v l) (hs : SameOn S w w') : StrsV S w' v l := ⟨h.1.same hs, h.2⟩
theorem StrsV.shape {S : Nat → Prop} {w : World} {v : Value} {l : List ByteArray} (h : StrsV S w v l) : ∃ p : Option Addr × Nat, v = .slice p.1 l.length p.2 :=
 let ⟨a, cap, hv, _⟩ := h.1; ⟨(a, cap), hv⟩
theorem StrsV.each {S : Nat → Prop} {w : World} {v : Value} {l : List ByteArray} (h : StrsV S w v l) {i : Nat} (hi : i < l.length) : (sa l i).size ≤ 140737488351232 := h.2 _ (at_mem hi)
theorem StrsV.open {S : Nat → Prop} {w : World} {v : Value} {l : List ByteArray} (h : StrsV S w v l) :
  ∃ a n cap, Hid (n = l.length) ∧ v = .slice a n cap ∧ n ≤ cap ∧ cap ≤ 9223372036854775807 ∧ n * 16 ≤ 140737488351232 ∧
   (0 < n → ∃ b off, a = some ⟨b, off, none⟩ ∧ S b ∧ ∀ i x, i < n → Below w.heap.size w x → x.cell? ⟨b, off + i, none⟩ = some (.string (sa l i))) := by
 obtain ⟨a, cap, hv, h1, h2, h3, h4⟩ := h.1
 refine ⟨a, l.length, cap, rfl, hv, h1, h2, h3, fun hn => ?_⟩
 obtain ⟨b, off, ha, hS, hc⟩ := h4 hn
 exact ⟨b, off, ha, hS.1, fun i x hi hb => by have := below_cell hb (hc i hi 0 _ rfl); simpa using this⟩
theorem StrsV.mk {S : Nat → Prop} {w : World} {l : List ByteArray} {b off cap : Nat} (h1 : l.length ≤ cap) (h2 : cap ≤ 9223372036854775807) (h3 : l.length * 16 ≤ 140737488351232) (hS : SF S w b off l.length)
  (hc : ∀ i, i < l.length → w.cell? ⟨b, off + i, none⟩ = some (.string (sa l i))) (hi : ∀ s ∈ l, s.size ≤ 140737488351232) : StrsV S w (.slice (some ⟨b, off, none⟩) l.length cap) l :=
 ⟨⟨_, cap, rfl, h1, h2, h3, fun _ => ⟨b, off, rfl, by rw [Nat.mul_one]; exact hS, fun i hn j u hu => by
  match j, hu with
  | 0, hu => cases hu; rw [Nat.mul_one]; exact hc i hn⟩⟩, hi⟩
def CountsTo (m : Nat) (b : List (ByteArray × Int)) : Prop := ∀ p ∈ b, 0 ≤ p.2 ∧ p.2 ≤ (m : Int)
theorem counts_cast {m : Nat} {b : List (ByteArray × Int)} (h : CountsTo m b) (s : ByteArray) : CountsTo (m + 1) (castB b s) := by
 induction b with
 | nil => intro p hp; cases hp
 | cons x r ih =>
  obtain ⟨v, n⟩ := x
  intro p hp
  have h1 := h (v, n) List.mem_cons_self
  simp only at h1
  unfold castB at hp
  split at hp
  ·rcases List.mem_cons.1 hp with rfl | hp
   ·show 0 ≤ n + 1 ∧ n + 1 ≤ ((m + 1 : Nat) : Int); omega
   ·have := h p (List.mem_cons_of_mem _ hp); omega
  ·rcases List.mem_cons.1 hp with rfl | hp
   ·show 0 ≤ n ∧ n ≤ ((m + 1 : Nat) : Int); omega
   ·exact ih (fun q hq => h q (List.mem_cons_of_mem _ hq)) p hp
theorem counts_step {m : Nat} {b : List (ByteArray × Int)} (h : CountsTo m b) (s : ByteArray) : CountsTo (m + 1) (stepB' b s) := by
 unfold stepB'
 split
 ·intro p hp; have := h p hp; omega
 ·exact counts_cast h s
def BoxM (J m : Nat) (w : World) (b : List (ByteArray × Int)) : Prop := CountsTo m b ∧ ∃ s0 s1 s2 n0 n1 n2, b = [(s0, n0), (s1, n1), (s2, n2)] ∧ BoxB J w s0 s1 s2 n0 n1 n2
theorem BoxM.is {J m : Nat} {w : World} {b : List (ByteArray × Int)} (h : BoxM J m w b) (hm : m ≤ 1000) : BoxIs J w b := by
 obtain ⟨hc, s0, s1, s2, n0, n1, n2, rfl, hb⟩ := h
 have h0 := hc (s0, n0) (by simp)
 have h1 := hc (s1, n1) (by simp)
 have h2 := hc (s2, n2) (by simp)
 simp only at h0 h1 h2
 exact ⟨s0, s1, s2, n0, n1, n2, rfl, hb, by omega, by omega, by omega⟩
theorem cast_m {J B m : Nat} {w : World} {b : List (ByteArray × Int)} (h : BoxM J m w b) (hm : m ≤ 1000) (hB : B ≤ J) (s : ByteArray) (hs : s ≠ ByteArray.empty) :
  Calls Tryz.prog 131 #[.pointer (some ⟨J, 0, none⟩), .string s] w fun e w' => e = .returned (.tuple #[]) ∧ Below B w w' ∧ BoxM J (m + 1) w' (stepB' b s) := by
 refine (cast_any (h.is hm) hB s).mono ?_
 rintro e w' ⟨rfl, hb, s0, s1, s2, n0, n1, n2, he, hbx⟩
 have := counts_step h.1 s
 unfold stepB' at this ⊢
 rw [if_neg hs] at this ⊢
 exact ⟨rfl, hb, this, s0, s1, s2, n0, n1, n2, he, hbx⟩
theorem BoxM.skip {J m : Nat} {w : World} {b : List (ByteArray × Int)} (h : BoxM J m w b) : BoxM J (m + 1) w (stepB' b ByteArray.empty) := by
 refine ⟨counts_step h.1 _, ?_⟩
 unfold stepB'; rw [if_pos rfl]; exact h.2
def boxTo (l : List ByteArray) (k : Nat) : List (ByteArray × Int) := (l.take k).foldl stepB' box0
theorem box_next {l : List ByteArray} {k : Nat} (h : k < l.length) : boxTo l (k + 1) = stepB' (boxTo l k) (sa l k) := by
 unfold boxTo; rw [List.take_succ_eq_append_getElem h, List.foldl_append, sa_lt h]; rfl
theorem box_all (l : List ByteArray) : boxTo l l.length = boxOf l := by unfold boxTo boxOf; rw [List.take_length]
theorem isEmpty_not {s : ByteArray} (h : s ≠ ByteArray.empty) : s.toList.isEmpty = false := by
 have e := text_eq s ByteArray.empty
 have e0 : ByteArray.empty.toList = [] := by decide +kernel
 rw [e0] at e
 cases hl : s.toList with
 | nil => rw [hl] at e; simp at e; exact absurd e h
 | cons a r => rfl
set_option maxRecDepth 100000 in
set_option maxHeartbeats 4000000 in
theorem tally_any (l : List ByteArray) (v : Value) (S : Nat → Prop) (w : World) (h : StrsV S w v l) :
  Calls Tryz.prog 70 #[v] w fun e w' => e = .returned (.tuple #[.string (tallyS l).1, .bool (tallyS l).2]) ∧ Below w.heap.size w w' := by
 obtain ⟨a, n, cap, HN, rfl, h1, h2, h3, h4⟩ := h.open
 have HE := Lib.hid h.2
 clear h
 by_cases hn : n = 3
 case neg =>
  have ht : tallyS l = (ByteArray.empty, false) := by unfold tallyS; rw [if_pos (by rw [← HN.out]; exact hn)]
  rw [ht]
  have hq : ((n : Int) != 3) = true := by simp; omega
  go_enter Tryz.func70, Tryz.ntmps70
  go_wp2_with fail
  go_ret2
  exact ⟨rfl, (Below.refl _ _).alloc (Nat.le_refl _) _⟩
 case pos =>
  obtain rfl := hn
  obtain ⟨b, off, rfl, hS, k0⟩ := h4 (by omega)
  clear h4 h1 h2 h3
  have ht : tallyS l = told (((boxOf l).find? wins).map (·.1)) := by unfold tallyS; rw [if_neg (by rw [← HN.out]; simp)]
  rw [ht]
  clear ht
  generalize hT : told (((boxOf l).find? wins).map (·.1)) = T
  have HT0 := Lib.hid hT
  clear hT
  have HX0 := Lib.hid (show BoxM w.heap.size 0 (w.alloc (.cells #[.string ⟨#[]⟩, .string ⟨#[]⟩, .string ⟨#[]⟩, .int .i64 0, .int .i64 0, .int .i64 0] 171)) (boxTo l 0) from
   ⟨by intro p hp; simp [boxTo, box0] at hp; subst hp; simp, _, _, _, _, _, _, rfl, by unfold BoxB; exact heap_alloc_new w _⟩)
  have HB0 := Lib.hid (show Below w.heap.size w (w.alloc (.cells #[.string ⟨#[]⟩, .string ⟨#[]⟩, .string ⟨#[]⟩, .int .i64 0, .int .i64 0, .int .i64 0] 171)) from (Below.refl _ _).alloc (Nat.le_refl _) _)
  go_enter Tryz.func70, Tryz.ntmps70
  go_wp2_with fail
  go_loopw [14] (fun i wr => ∃ k : Nat, k ≤ 3 ∧ i = .int .i64 k ∧ Hid (BoxM w.heap.size k wr (boxTo l k)) ∧ Below w.heap.size w wr) (fun i _ => 3 - (intOf i).toNat)
  case atStart => exact ⟨0, by omega, rfl, HX0, HB0.out⟩
  case round =>
   obtain ⟨k, hk, rfl, HX, hbw⟩ := hrel
   clear HX0 HB0
   by_cases hlt : k < 3
   case pos =>
    have x0 := k0 k wr hlt hbw
    have hi1 : (0 : Int) ≤ (k : Int) := by omega
    have hi2 : (k : Int) < 3 := by omega
    have Hnx := Lib.hid (box_next (l := l) (k := k) (by rw [← HN.out]; exact hlt))
    clear k0
    generalize sa l k = s at *
    by_cases hs : s = ByteArray.empty
    case pos =>
     subst hs
     have hq : ByteArray.empty.toList.isEmpty = true := by decide +kernel
     go_wp2_with fail
     go_roundw
     case rel => exact ⟨k + 1, by omega, by go_num, by rw [Hnx.out]; exact HX.out.skip, hbw⟩
     case measure => simp [intOf]; omega
    case neg =>
     have hq : s.toList.isEmpty = false := isEmpty_not hs
     have HC := Lib.hid (cast_m HX.out (by omega) (Nat.le_refl _) s hs)
     clear HX hs
     go_wp2_with fail
     refine HC.out.mono ?_
     rintro e w2 ⟨rfl, hb2, hx2⟩
     have HX2 := Lib.hid hx2
     have hbw2 := hbw.trans hb2
     clear hx2 hb2 hbw
     go_wp2_with fail
     go_roundw
     case rel => exact ⟨k + 1, by omega, by go_num, by rw [Hnx.out]; exact HX2.out, hbw2⟩
     case measure => simp [intOf]; omega
   case neg =>
    have hk3 : k = 3 := by omega
    have hkI : ((k : Nat) : Int) = 3 := by omega
    rw [hkI]
    clear hkI hlt hk
    have hx := HX.out
    rw [hk3, HN.out, box_all] at hx
    clear hk3
    obtain ⟨hc, s0, s1, s2, n0, n1, n2, he, hb⟩ := hx
    rw [he] at hc
    have hT := HT0.out
    rw [he] at hT
    have b0 : 0 ≤ n0 ∧ n0 ≤ 3 := by have := hc (s0, n0) (by simp); have h3 := HN.out; simp only at this; omega
    have b1 : 0 ≤ n1 ∧ n1 ≤ 3 := by have := hc (s1, n1) (by simp); have h3 := HN.out; simp only at this; omega
    have b2 : 0 ≤ n2 ∧ n2 ≤ 3 := by have := hc (s2, n2) (by simp); have h3 := HN.out; simp only at this; omega
    have HT := Lib.hid hT
    clear hT HT0 hc he HX HN HE k0
    generalize hJ : w.heap.size = J at *
    obtain ⟨C, hC, hC1, _⟩ := cls_plain wr
    have hCb := hC.below
    have hCg := cls_grown hC
    have HBw := Lib.hid (fun x (hx : In C x) => show Below w.heap.size w x from by rw [hJ]; exact hbw.trans ((hCb _ hx).mono (by have := lt_of_block hb; omega)))
    have y0 := fun x (hx : In C x) => show x.cell? ⟨J, 0, none⟩ = some (.string s0) from block_cell (hb.below (hCb _ hx)) rfl
    have y1 := fun x (hx : In C x) => show x.cell? ⟨J, 1, none⟩ = some (.string s1) from block_cell (hb.below (hCb _ hx)) rfl
    have y2 := fun x (hx : In C x) => show x.cell? ⟨J, 2, none⟩ = some (.string s2) from block_cell (hb.below (hCb _ hx)) rfl
    have y3 := fun x (hx : In C x) => show x.cell? ⟨J, 3, none⟩ = some (.int .i64 n0) from block_cell (hb.below (hCb _ hx)) rfl
    have y4 := fun x (hx : In C x) => show x.cell? ⟨J, 4, none⟩ = some (.int .i64 n1) from block_cell (hb.below (hCb _ hx)) rfl
    have y5 := fun x (hx : In C x) => show x.cell? ⟨J, 5, none⟩ = some (.int .i64 n2) from block_cell (hb.below (hCb _ hx)) rfl
    have HPf := Lib.hid (fun (s : ByteArray) x => show Calls Tryz.prog 132 #[.string s, .string ⟨#[121, 101, 115]⟩] x fun e w' => e = .returned (.bool (yesB s)) ∧ w' = x from Tryz.strings_HasPrefix s ⟨#[121, 101, 115]⟩ x)
    clear hb hbw hCb hC hS
    have ix0 := fun (x : World) => show (Instr.index 169 (.agg #[.int .i64 n0, .int .i64 n1, .int .i64 n2]) (.int .i64 0)).run Tryz.prog x = .ok (.int .i64 n0) x from by rfl
    have ix1 := fun (x : World) => show (Instr.index 169 (.agg #[.int .i64 n0, .int .i64 n1, .int .i64 n2]) (.int .i64 1)).run Tryz.prog x = .ok (.int .i64 n1) x from by rfl
    have ix2 := fun (x : World) => show (Instr.index 169 (.agg #[.int .i64 n0, .int .i64 n1, .int .i64 n2]) (.int .i64 2)).run Tryz.prog x = .ok (.int .i64 n2) x from by rfl
    go_wp2_with fail
    go_loopw [25] (fun i wy => (i = .int .i64 0 ∧ In C wy) ∨ (i = .int .i64 1 ∧ In C wy ∧ Hid (wins (s0, n0) = false)) ∨ (i = .int .i64 2 ∧ In C wy ∧ Hid (wins (s0, n0) = false) ∧ Hid (wins (s1, n1) = false)) ∨ (i = .int .i64 3 ∧ In C wy ∧ Hid (wins (s0, n0) = false) ∧ Hid (wins (s1, n1) = false) ∧ Hid (wins (s2, n2) = false))) (fun i _ => 4 - (intOf i).toNat)
    case atStart => exact .inl ⟨rfl, hC1⟩
    case round =>
     rcases hrel with ⟨rfl, hCx⟩ | ⟨rfl, hCx, H0⟩ | ⟨rfl, hCx, H0, H1⟩ | ⟨rfl, hCx, H0, H1, H2⟩
     ·clear hC1
      have hw := wrap_in (n := 2 * n0) (by omega)
      by_cases p : 3 < 2 * n0
      case pos =>
       cases y : yesB s0
       case true =>
        have hwin : wins (s0, n0) = true := by unfold wins; rw [y]; simp; exact p
        have HT2 := HT.out
        simp only [List.find?, hwin] at HT2
        have HR := Lib.hid (show T = (s0, true) from HT2.symm)
        have HP := Lib.hid (HPf.out s0)
        rw [y] at HP
        clear HT2 hwin HT
        have HB := Lib.hid (HBw.out _ hCx)
        go_wp2_with fail
        refine (HP.out _).mono ?_
        rintro e w' ⟨rfl, rfl⟩
        clear HP
        go_wp2_with fail
        go_ret2
        exact ⟨by rw [HR.out]; rfl, HB.out⟩
       case false =>
        have Hw := Lib.hid (show wins (s0, n0) = false by unfold wins; rw [y]; simp)
        have HP := Lib.hid (HPf.out s0)
        rw [y] at HP
        go_wp2_with fail
        refine (HP.out _).mono ?_
        rintro e w' ⟨rfl, rfl⟩
        go_wp2_with fail
        go_roundw
        case rel => exact .inr (.inl ⟨rfl, hCx, Hw⟩)
        case measure => simp [intOf]
      case neg =>
       have Hw := Lib.hid (show wins (s0, n0) = false by unfold wins; rw [show decide (3 < 2 * n0) = false by simpa using p]; rfl)
       go_wp2_with fail
       go_roundw
       case rel => exact .inr (.inl ⟨rfl, hCx, Hw⟩)
       case measure => simp [intOf]
     ·clear hC1
      have hw := wrap_in (n := 2 * n1) (by omega)
      by_cases p : 3 < 2 * n1
      case pos =>
       cases y : yesB s1
       case true =>
        have hwin : wins (s1, n1) = true := by unfold wins; rw [y]; simp; exact p
        have HT2 := HT.out
        simp only [List.find?, H0.out, hwin] at HT2
        have HR := Lib.hid (show T = (s1, true) from HT2.symm)
        have HP := Lib.hid (HPf.out s1)
        rw [y] at HP
        clear HT2 hwin HT
        have HB := Lib.hid (HBw.out _ hCx)
        go_wp2_with fail
        refine (HP.out _).mono ?_
        rintro e w' ⟨rfl, rfl⟩
        clear HP
        go_wp2_with fail
        go_ret2
        exact ⟨by rw [HR.out]; rfl, HB.out⟩
       case false =>
        have Hw := Lib.hid (show wins (s1, n1) = false by unfold wins; rw [y]; simp)
        have HP := Lib.hid (HPf.out s1)
        rw [y] at HP
        go_wp2_with fail
        refine (HP.out _).mono ?_
        rintro e w' ⟨rfl, rfl⟩
        go_wp2_with fail
        go_roundw
        case rel => exact .inr (.inr (.inl ⟨rfl, hCx, H0, Hw⟩))
        case measure => simp [intOf]
      case neg =>
       have Hw := Lib.hid (show wins (s1, n1) = false by unfold wins; rw [show decide (3 < 2 * n1) = false by simpa using p]; rfl)
       go_wp2_with fail
       go_roundw
       case rel => exact .inr (.inr (.inl ⟨rfl, hCx, H0, Hw⟩))
       case measure => simp [intOf]
     ·clear hC1
      have hw := wrap_in (n := 2 * n2) (by omega)
      by_cases p : 3 < 2 * n2
      case pos =>
       cases y : yesB s2
       case true =>
        have hwin : wins (s2, n2) = true := by unfold wins; rw [y]; simp; exact p
        have HT2 := HT.out
        simp only [List.find?, H0.out, H1.out, hwin] at HT2
        have HR := Lib.hid (show T = (s2, true) from HT2.symm)
        have HP := Lib.hid (HPf.out s2)
        rw [y] at HP
        clear HT2 hwin HT
        have HB := Lib.hid (HBw.out _ hCx)
        go_wp2_with fail
        refine (HP.out _).mono ?_
        rintro e w' ⟨rfl, rfl⟩
        clear HP
        go_wp2_with fail
        go_ret2
        exact ⟨by rw [HR.out]; rfl, HB.out⟩
       case false =>
        have Hw := Lib.hid (show wins (s2, n2) = false by unfold wins; rw [y]; simp)
        have HP := Lib.hid (HPf.out s2)
        rw [y] at HP
        go_wp2_with fail
        refine (HP.out _).mono ?_
        rintro e w' ⟨rfl, rfl⟩
        go_wp2_with fail
        go_roundw
        case rel => exact .inr (.inr (.inr (⟨rfl, hCx, H0, H1, Hw⟩)))
        case measure => simp [intOf]
      case neg =>
       have Hw := Lib.hid (show wins (s2, n2) = false by unfold wins; rw [show decide (3 < 2 * n2) = false by simpa using p]; rfl)
       go_wp2_with fail
       go_roundw
       case rel => exact .inr (.inr (.inr (⟨rfl, hCx, H0, H1, Hw⟩)))
       case measure => simp [intOf]
     ·clear hC1
      have HT2 := HT.out
      simp only [List.find?, H0.out, H1.out, H2.out] at HT2
      have HR := Lib.hid (show T = (ByteArray.empty, false) from HT2.symm)
      have HB := Lib.hid (HBw.out _ hCx)
      go_wp2_with fail
      go_ret2
      exact ⟨by rw [HR.out]; rfl, HB.out⟩
end Go.Proofs.YtjdgpgfiomnjkaaGreatDoor
namespace Go.Proofs.YtjdgpgfiomnjkaaGreatDoor
open Go.RowKit
set_option linter.unusedVariables false
set_option linter.unusedSimpArgs false
set_option linter.unusedSectionVars false
variable [Ghost]
end Go.Proofs.YtjdgpgfiomnjkaaGreatDoor
namespace Go.Proofs.YtjdgpgfiomnjkaaGreatDoor
open Go.RowKit
set_option linter.unusedVariables false
set_option linter.unusedSimpArgs false
set_option linter.unusedSectionVars false
variable [Ghost]
def Tab (w : World) : Prop := Lib.TabIs Tryz.prog w "internal/strconv.uint64pow10" .u64 Lib.pow10Tab
theorem Tab.below {w w' : World} (h : Tab w) (hb : Below w.heap.size w w') : Tab w' := Lib.tabBelow_of_tabIs h w' hb
theorem itoa_gen (n : Int) (h0 : 0 ≤ n) (h1 : n ≤ 999) (w : World) (h : Tab w) : Calls Tryz.prog 101 #[.int .i64 n] w fun e w' => e = .returned (.string (decB n)) ∧ Below w.heap.size w w' := by
 refine (Tryz.strconv_Itoa n (by omega) (by omega) w h).mono ?_
 rintro e w' ⟨rfl, k, os, rfl⟩
 have hi : Lib.itoa n = Lib.decDigits n.toNat := by unfold Lib.itoa; rw [if_neg (by omega)]
 rw [hi]
 exact ⟨rfl, below_regrown w (w.drewN k).drawn os⟩
theorem itoa_few (n : Int) (h : Digit n) (w : World) : Calls Tryz.prog 101 #[.int .i64 n] w fun e w' => e = .returned (.string (decB n)) ∧ Below w.heap.size w w' := by
 obtain ⟨k, rfl⟩ : ∃ k : Nat, n = (k : Int) := ⟨n.toNat, by have := h.1; omega⟩
 refine (Tryz.strconv_Itoa_small k (by have := h.2; omega) w).mono ?_
 rintro e w' ⟨rfl, rfl⟩
 exact ⟨rfl, Below.refl _ _⟩
theorem dec_short {n : Int} (h0 : 0 ≤ n) (h1 : n ≤ 999) : (decB n).size ≤ 20 := by
 unfold decB
 show (Lib.decDigits n.toNat).toArray.size ≤ 20
 have : (Lib.decDigits n.toNat).length ≤ 20 := by
  rw [Lib.decDigits_length]
  unfold Lib.nDigits
  split
  ·omega
  ·unfold Lib.nDigits
   split
   ·omega
   ·unfold Lib.nDigits
    split
    ·omega
    ·omega
 simpa using this
theorem text_few {l : List Mv} (h : MvsOk l) : (textL l).size ≤ 1000 := by
 have := text_size h l.length (Nat.le_refl _)
 have h4 := h.many
 show (textTo l l.length).1.size ≤ 1000
 omega
set_option maxRecDepth 100000 in
set_option maxHeartbeats 4000000 in
theorem voteRaw_any (r : Rep) (p : Psh) (sv rv ov uv ov2 uv2 : Value) (S S1 S2 S3 : Nat → Prop) (w : World) (hs : StoreV S w sv r.store) (hr : RefsV S1 w rv r.refs) (ho : StoreV S2 w ov p.objects) (hu : MvsV S3 w uv p.updates)
  (h2 : (∃ a n c, ov2 = .slice a n c) ∧ ∃ a n c, uv2 = .slice a n c) (hp : checkPsh p = 0) (g0 : 0 ≤ r.gen) (g1 : r.gen ≤ 999) (ht : Tab w) :
  Calls Tryz.prog 97 #[.agg #[sv, rv, .int .i64 r.gen, .int .i64 r.phase, ov2, uv2, .bool r.pend.force], .agg #[ov, uv, .bool p.force]] w
   fun e w' => e = .returned (.string (voteR r p)) ∧ Below w.heap.size w w' := by
 have Hr := Lib.hid (fun x (hx : Below w.heap.size w x) => pushRaw_any r p _ _ _ _ _ _ _ _ _ _ x (hs.below hx) (hr.below hx) (ho.below hx) (hu.below hx) (checkPsh_zero hp).2.2 h2)
 have hok := mvs_ok.1 (checkPsh_zero hp).2.2
 have HI := Lib.hid (fun x (hx : Below w.heap.size w x) => itoa_gen r.gen g0 g1 x (ht.below hx))
 have HF := Lib.hid (fun (hd : Digit (tryE r p)) x => itoa_few _ hd x)
 have HL := Lib.hid (fun x (hx : Below w.heap.size w x) => line_any p.updates _ _ x (hu.below hx) hok)
 have Hdg := Lib.hid (dig_try r p)
 have n1 : (decB r.gen).size ≤ 20 := dec_short g0 g1
 have n2 : (decB (tryE r p)).size ≤ 20 := dec_short (dig_try r p).1 (by have := (dig_try r p).2; omega)
 have n3 : (textL p.updates).size ≤ 1000 := text_few hok
 clear hok
 obtain ⟨sa, sc, rfl⟩ := hs.vshape
 obtain ⟨⟨ra, rc⟩, rfl⟩ := hr.shape
 obtain ⟨oa, oc, rfl⟩ := ho.vshape
 obtain ⟨⟨ua, uc⟩, rfl⟩ := hu.shape
 obtain ⟨⟨oa2, on2, oc2, rfl⟩, ⟨ua2, un2, uc2, rfl⟩⟩ := h2
 obtain ⟨R, hR, hR1, hy, hz⟩ := cls_two w #[.slice sa r.store.length sc, .slice ra r.refs.length rc, .int .i64 r.gen, .int .i64 r.phase, .slice oa2 on2 oc2, .slice ua2 un2 uc2, .bool r.pend.force] #[.slice oa p.objects.length oc, .slice ua p.updates.length uc, .bool p.force] 28 26
 have y0 := hy 0 _ rfl
 have y1 := hy 1 _ rfl
 have y2 := hy 2 _ rfl
 have y3 := hy 3 _ rfl
 have y4 := hy 4 _ rfl
 have y5 := hy 5 _ rfl
 have y6 := hy 6 _ rfl
 have z0 := hz 0 _ rfl
 have z1 := hz 1 _ rfl
 have z2 := hz 2 _ rfl
 have hRb := hR.below
 have hRn := hR.next
 have hRg := cls_grown hR
 clear hy hz hs hr ho hu hp
 have a0 := y0 _ hR1
 have a1 := y1 _ hR1
 have a2 := y2 _ hR1
 have a3 := y3 _ hR1
 have a4 := y4 _ hR1
 have a5 := y5 _ hR1
 have a6 := y6 _ hR1
 have b0 := z0 _ hR1
 have b1 := z1 _ hR1
 have b2 := z2 _ hR1
 have HV := Lib.hid (show voteR r p = if tryE r p ≠ 0 then noB ++ decB (tryE r p) else yesSp ++ decB r.gen ++ spB ++ textL p.updates from rfl)
 by_cases he : tryE r p = 0
 case neg =>
  have hq : (tryE r p != 0) = true := by simpa using he
  rw [HV.out, if_pos he]
  have HF2 := Lib.hid (HF.out Hdg.out)
  have m1 : ¬ 9223372036854775807 < 3 + (decB (tryE r p)).size := by omega
  clear HV HF HI HL Hdg he
  generalize decB (tryE r p) = ds at *
  go_enter Tryz.func97, Tryz.ntmps97
  go_wp2_with fail
  refine (Hr.out _ (hRb _ hR1)).mono ?_
  rintro e w4 ⟨v4, u4, rfl, hv4, hu4, hb4⟩
  obtain ⟨a4', c4, rfl⟩ := hv4.vshape
  obtain ⟨⟨p4, d4⟩, rfl⟩ := hu4.shape
  have hR2 := hRn _ _ hR1 hb4
  clear hv4 hu4 hb4
  go_wp2_with fail
  refine (HF2.out _).mono ?_
  rintro e w5 ⟨rfl, hb5⟩
  have hR5 := hRn _ _ hR2 hb5
  have HB := Lib.hid (hRb _ hR5)
  go_wp2_with fail
  go_ret
  exact ⟨rfl, HB.out⟩
 case pos =>
  rw [HV.out, if_neg (by simpa using he)]
  rw [he] at Hr
  have HL2 := Lib.hid HL.out
  have m1 : ¬ 9223372036854775807 < 4 + (decB r.gen).size := by omega
  have m2 : ¬ 9223372036854775807 < 4 + (decB r.gen).size + 1 := by omega
  have m3 : ¬ 9223372036854775807 < 4 + (decB r.gen).size + 1 + (textL p.updates).size := by omega
  clear HV HF Hdg HL he
  generalize decB r.gen = ds at *
  generalize textL p.updates = tx at *
  go_enter Tryz.func97, Tryz.ntmps97
  go_wp2_with fail
  refine (Hr.out _ (hRb _ hR1)).mono ?_
  rintro e w4 ⟨v4, u4, rfl, hv4, hu4, hb4⟩
  obtain ⟨a4', c4, rfl⟩ := hv4.vshape
  obtain ⟨⟨p4, d4⟩, rfl⟩ := hu4.shape
  have hR2 := hRn _ _ hR1 hb4
  clear hv4 hu4 hb4 a0 a1 a2 a3 a4 a5 a6 b0 b1 b2
  go_wp2_with fail
  refine wp_region_quiet_below (by kernel_rfl) (by kernel_rfl) ?_
  repeat (first | go_big_quiet_skip | quiet_step (first | exact Calls.regrown_of (HL2.out _ (hRb _ (hRg _ _ _ hR2))) | exact Calls.regrown_of (HI.out _ (hRb _ (hRg _ _ _ hR2)))))
  refine wpQuiet_nil ?_
  intro _ hw'
  obtain ⟨⟨dq, osq⟩, hw''⟩ := hw'
  subst hw''
  have hR5 := hRg _ dq osq hR2
  generalize Go.Sort.grow (redrawn _ dq) osq = x5 at *
  have HB := Lib.hid (hRb _ hR5)
  go_wp2_with fail
  go_ret
  exact ⟨rfl, HB.out⟩
end Go.Proofs.YtjdgpgfiomnjkaaGreatDoor
namespace Go.Proofs.YtjdgpgfiomnjkaaGreatDoor
open Go.RowKit
set_option linter.unusedVariables false
set_option linter.unusedSimpArgs false
set_option linter.unusedSectionVars false
variable [Ghost]
def ofE (r : Rep) (p : Psh) : Int := if checkPsh p ≠ 0 then checkPsh p else if r.gen < 0 ∨ 999 < r.gen then 3 else 0
def ofS (r : Rep) (p : Psh) : ByteArray := if ofE r p = 0 then voteR r p else ByteArray.empty
set_option maxRecDepth 100000 in
set_option maxHeartbeats 4000000 in
theorem of_any (r : Rep) (p : Psh) (sv rv ov uv ov2 uv2 : Value) (S S1 S2 S3 : Nat → Prop) (w : World) (hs : StoreV S w sv r.store) (hr : RefsV S1 w rv r.refs) (ho : StoreV S2 w ov p.objects) (hu : MvsV S3 w uv p.updates)
    (h2 : (∃ a n c, ov2 = .slice a n c) ∧ ∃ a n c, uv2 = .slice a n c) (ht : Tab w) :
    Calls Tryz.prog 31 #[.agg #[sv, rv, .int .i64 r.gen, .int .i64 r.phase, ov2, uv2, .bool r.pend.force], .agg #[ov, uv, .bool p.force]] w
      fun e w' => e = .returned (.tuple #[.string (ofS r p), .int .i64 (ofE r p)]) ∧ Below w.heap.size w w' := by
  have Hc := Lib.hid (fun x (hx : Below w.heap.size w x) => pushCheck_any p _ _ _ _ x (ho.below hx) (hu.below hx))
  have Hr := Lib.hid (fun hp g0 g1 x (hx : Below w.heap.size w x) => voteRaw_any r p _ _ _ _ _ _ _ _ _ _ x (hs.below hx) (hr.below hx) (ho.below hx) (hu.below hx) h2 hp g0 g1 (ht.below hx))
  obtain ⟨sa, sc, rfl⟩ := hs.vshape
  obtain ⟨⟨ra, rc⟩, rfl⟩ := hr.shape
  obtain ⟨oa, oc, rfl⟩ := ho.vshape
  obtain ⟨⟨ua, uc⟩, rfl⟩ := hu.shape
  obtain ⟨⟨oa2, on2, oc2, rfl⟩, ⟨ua2, un2, uc2, rfl⟩⟩ := h2
  obtain ⟨R, hR, hR1, hy, hz⟩ := cls_two w #[.slice sa r.store.length sc, .slice ra r.refs.length rc, .int .i64 r.gen, .int .i64 r.phase, .slice oa2 on2 oc2, .slice ua2 un2 uc2, .bool r.pend.force] #[.slice oa p.objects.length oc, .slice ua p.updates.length uc, .bool p.force] 28 26
  have y0 := hy 0 _ rfl
  have y1 := hy 1 _ rfl
  have y2 := hy 2 _ rfl
  have y3 := hy 3 _ rfl
  have y4 := hy 4 _ rfl
  have y5 := hy 5 _ rfl
  have y6 := hy 6 _ rfl
  have z0 := hz 0 _ rfl
  have z1 := hz 1 _ rfl
  have z2 := hz 2 _ rfl
  have hRb := hR.below
  have hRn := hR.next
  have hRg := cls_grown hR
  clear hy hz hs hr ho hu ht
  have b0 := z0 _ hR1
  have b1 := z1 _ hR1
  have b2 := z2 _ hR1
  by_cases hp : checkPsh p = 0
  case neg =>
    have he : ofE r p = checkPsh p := by unfold ofE; rw [if_pos hp]
    have HV := Lib.hid (show ofS r p = ByteArray.empty by unfold ofS; rw [he, if_neg hp])
    rw [HV.out, he]
    have hq : (checkPsh p != 0) = true := by simpa using hp
    have hq2 : (checkPsh p == 0) = false := by simpa using hp
    clear hp he Hr
    generalize checkPsh p = E at *
    clear HV
    go_enter Tryz.func31, Tryz.ntmps31
    go_wp2_with fail
    refine (Hc.out _ (hRb _ hR1)).mono ?_
    rintro e w2 ⟨rfl, hb2⟩
    have hR2 := hRn _ _ hR1 hb2
    have HB := Lib.hid (hRb _ hR2)
    clear hb2 b0 b1 b2
    have a0 := y0 _ hR2
    have a1 := y1 _ hR2
    have a2 := y2 _ hR2
    have a3 := y3 _ hR2
    have a4 := y4 _ hR2
    have a5 := y5 _ hR2
    have a6 := y6 _ hR2
    have c0 := z0 _ hR2
    have c1 := z1 _ hR2
    have c2 := z2 _ hR2
    go_wp2_with fail
    go_ret2
    exact ⟨rfl, HB.out⟩
  case pos =>
   rw [hp] at Hc
   by_cases hg : r.gen < 0
   case pos =>
    have he : ofE r p = 3 := by unfold ofE; rw [if_neg (by simpa using hp), if_pos (.inl hg)]
    have HV := Lib.hid (show ofS r p = ByteArray.empty by unfold ofS; rw [he]; rfl)
    rw [HV.out, he]
    have hq : decide (r.gen < 0) = true := by simpa using hg
    clear hp he Hr
    clear HV
    go_enter Tryz.func31, Tryz.ntmps31
    go_wp2_with fail
    refine (Hc.out _ (hRb _ hR1)).mono ?_
    rintro e w2 ⟨rfl, hb2⟩
    have hR2 := hRn _ _ hR1 hb2
    have HB := Lib.hid (hRb _ hR2)
    clear hb2 b0 b1 b2
    have a0 := y0 _ hR2
    have a1 := y1 _ hR2
    have a2 := y2 _ hR2
    have a3 := y3 _ hR2
    have a4 := y4 _ hR2
    have a5 := y5 _ hR2
    have a6 := y6 _ hR2
    have c0 := z0 _ hR2
    have c1 := z1 _ hR2
    have c2 := z2 _ hR2
    go_wp2_with fail
    go_ret2
    exact ⟨rfl, HB.out⟩
   case neg =>
   by_cases hg2 : 999 < r.gen
   case pos =>
    have he : ofE r p = 3 := by unfold ofE; rw [if_neg (by simpa using hp), if_pos (.inr hg2)]
    have HV := Lib.hid (show ofS r p = ByteArray.empty by unfold ofS; rw [he]; rfl)
    rw [HV.out, he]
    have hq : decide (r.gen < 0) = false := by simpa using hg
    have hq2 : decide (999 < r.gen) = true := by simpa using hg2
    clear hp he Hr
    clear HV
    go_enter Tryz.func31, Tryz.ntmps31
    go_wp2_with fail
    refine (Hc.out _ (hRb _ hR1)).mono ?_
    rintro e w2 ⟨rfl, hb2⟩
    have hR2 := hRn _ _ hR1 hb2
    have HB := Lib.hid (hRb _ hR2)
    clear hb2 b0 b1 b2
    have a0 := y0 _ hR2
    have a1 := y1 _ hR2
    have a2 := y2 _ hR2
    have a3 := y3 _ hR2
    have a4 := y4 _ hR2
    have a5 := y5 _ hR2
    have a6 := y6 _ hR2
    have c0 := z0 _ hR2
    have c1 := z1 _ hR2
    have c2 := z2 _ hR2
    go_wp2_with fail
    go_ret2
    exact ⟨rfl, HB.out⟩
   case neg =>
    have he : ofE r p = 0 := by unfold ofE; rw [if_neg (by simpa using hp), if_neg (by omega)]
    have HV := Lib.hid (show ofS r p = voteR r p by unfold ofS; rw [he, if_pos rfl])
    rw [HV.out, he]
    have hq : decide (r.gen < 0) = false := by simpa using hg
    have hq2 : decide (999 < r.gen) = false := by simpa using hg2
    have Hr2 := Lib.hid (Hr.out hp (by omega) (by omega))
    clear hp he Hr
    clear HV
    go_enter Tryz.func31, Tryz.ntmps31
    go_wp2_with fail
    refine (Hc.out _ (hRb _ hR1)).mono ?_
    rintro e w2 ⟨rfl, hb2⟩
    have hR2 := hRn _ _ hR1 hb2
    have HB := Lib.hid (hRb _ hR2)
    clear hb2 b0 b1 b2
    have a0 := y0 _ hR2
    have a1 := y1 _ hR2
    have a2 := y2 _ hR2
    have a3 := y3 _ hR2
    have a4 := y4 _ hR2
    have a5 := y5 _ hR2
    have a6 := y6 _ hR2
    have c0 := z0 _ hR2
    have c1 := z1 _ hR2
    have c2 := z2 _ hR2
    go_wp2_with fail
    refine (Hr2.out _ (hRb _ hR2)).mono ?_
    rintro e w5 ⟨rfl, hb5⟩
    have HB5 := Lib.hid (hRb _ (hRn _ _ hR2 hb5))
    clear hb5
    go_wp2_with fail
    go_ret2
    exact ⟨rfl, HB5.out⟩
end Go.Proofs.YtjdgpgfiomnjkaaGreatDoor
