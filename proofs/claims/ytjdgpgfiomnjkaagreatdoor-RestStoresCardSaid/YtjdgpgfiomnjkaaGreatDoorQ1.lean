
/- ObjA: Obj1, Obj2, Obj3, Obj4, Obj5, Obj6. -/
import Derived.Test.YtjdgpgfiomnjkaaGreatDoorRows
import Derived.Test.YtjdgpgfiomnjkaaGreatDoorQ0
namespace Go.Proofs.YtjdgpgfiomnjkaaGreatDoor
open Go.RowKit
set_option linter.unusedVariables false
set_option linter.unusedSimpArgs false
set_option linter.unusedSectionVars false
variable [Ghost]
set_option maxHeartbeats 400000 in
theorem within_any (n lo hi : Int) (w : World) :
  Calls Tryz.prog 129 #[.int .i64 n, .int .i64 lo, .int .i64 hi] w fun e w' => e = .returned (.bool (within n lo hi)) ∧ w = w' := by
 go_enter Tryz.func129, Tryz.ntmps129
 go_wp2
 all_goals go_ret
 all_goals (refine ⟨?_, rfl⟩; simp [within, *])
 omega
set_option maxHeartbeats 400000 in
theorem between_any (n lo hi : Int) (w : World) :
  Calls Tryz.prog 105 #[.int .i64 n, .int .i64 lo, .int .i64 hi] w fun e w' => e = .returned (.bool (within n lo hi)) ∧ w = w' := by
 go_enter Tryz.func105, Tryz.ntmps105
 go_wp2
 all_goals go_ret
 all_goals (refine ⟨?_, rfl⟩; simp [within, *])
 omega
theorem ret_int {k : IntKind} {a b : Int} (h : a = b) : Ending.returned (.int k a) = .returned (.int k b) := by rw [h]
theorem ite_kind {n : Int} {b : Bool} (h : (n == 3) = b) : (if n = 3 then 2 else 1) = (if b then 2 else 1) := by
 have : (n == 3) = decide (n = 3) := rfl
 rw [← h, this]; by_cases hn : n = 3 <;> simp [hn]
theorem formBad_eq (o : Obj) : formBad o = ((o.kind == 1 && decide (0 < o.links.length)) || (o.kind == 3 && decide (o.links.length < 1))) := by
 have h1 : (o.kind == 1) = decide (o.kind = 1) := rfl
 have h3 : (o.kind == 3) = decide (o.kind = 3) := rfl
 have h4 : decide (o.links.length < 1) = decide (o.links.length = 0) := by rw [decide_eq_decide]; omega
 rw [h1, h3, h4]; rfl
set_option maxHeartbeats 1000000 in
theorem links_any (o : Obj) (lv : Value) (S : Nat → Prop) (w : World) (ho : ObjIs S w o lv) (hi : within o.id 1 99 = true) :
  Calls Tryz.prog 130 #[.agg #[.int .i64 o.id, .int .i64 o.kind, lv, .string o.text]] w fun e w' => e = .returned (.int .i64 (linksErr o)) ∧ Below w.heap.size w w' := by
 obtain ⟨a, n, cap, HN, rfl, hc1, hc2, hc8, hc⟩ := ho.1.open
 have hid := within_true hi
 have hb0 : Below w.heap.size w w := Below.refl _ _
 have hb1 := below_alloc w
 have Hfb := Lib.hid (formBad_eq o)
 clear hi
 cases hk3 : (o.kind == 3)
 ·have Hk3 := Lib.hid hk3
  go_enter Tryz.func130, Tryz.ntmps130
  go_wp2
  go_loopw [12] (fun i wr => ∃ k : Nat, k ≤ n ∧ i = .int .i64 k ∧ scan (linkBad o) k = 0 ∧ wr = w.alloc (.cells #[.int .i64 o.id, .int .i64 o.kind, .slice a n cap, .string o.text] 46)) (fun i _ => n - (intOf i).toNat)
  case atStart => exact ⟨0, by omega, rfl, rfl, rfl⟩
  case round =>
   obtain ⟨k, hk, rfl, hs, rfl⟩ := hrel
   have Hsc := Lib.hid hs; clear hs
   by_cases hlt : k < n
   ·obtain ⟨b, off, rfl, hb, hcell⟩ := hc (by omega)
    clear hc
    cases hw : within (nth o.links k) 1 (o.id - 1)
    ·go_wp2_with (go_at_call 129; refine (within_any _ _ _ _).mono ?_; rintro e w' ⟨rfl, rfl⟩)
     go_ret
     exact ⟨ret_int (linksErr_bad Hsc.out (linkBad_range hw) (by omega) (by have := HN.out; omega)).symm, hb1 _ _ hb0⟩
    ·have Hst := Lib.hid (linkBad_state hw)
     have Hokk := Lib.hid (linkBad_ok hw)
     have hsp : (if o.kind = 3 then 2 else 1) = 1 := ite_kind Hk3.out
     have hkm : 1 ≤ k → ∀ x, Below w.heap.size w x → x.cell? ⟨b, off + (k - 1), none⟩ = some (.int .i64 (nth o.links (k - 1))) := fun _ x hx => hcell (k - 1) x (by omega) hx
     rw [hsp] at Hst Hokk
     clear hsp
     by_cases hf : 1 ≤ k
     ·have hkm' := hkm (by omega)
      clear hkm
      by_cases hle : nth o.links k ≤ nth o.links (k - 1)
      ·go_wp2_with (go_at_call 129; refine (within_any _ _ _ _).mono ?_; rintro e w' ⟨rfl, rfl⟩)
       go_ret
       exact ⟨ret_int (linksErr_bad Hsc.out (Hst.out hf hle) (by omega) (by have := HN.out; omega)).symm, hb1 _ _ hb0⟩
      ·go_wp2_with (go_at_call 129; refine (within_any _ _ _ _).mono ?_; rintro e w' ⟨rfl, rfl⟩)
       go_roundw
       case rel => exact ⟨k + 1, by omega, by go_num, scan_next Hsc.out (Hokk.out (by omega)), trivial⟩
       case measure => simp [intOf]; omega
     ·clear hkm
      go_wp2_with (go_at_call 129; refine (within_any _ _ _ _).mono ?_; rintro e w' ⟨rfl, rfl⟩)
      go_roundw
      case rel => exact ⟨k + 1, by omega, by go_num, scan_next Hsc.out (Hokk.out (by omega)), trivial⟩
      case measure => simp [intOf]; omega
   ·obtain rfl : k = n := by omega
    have hz : scan (linkBad o) o.links.length = 0 := by rw [← HN.out]; exact Hsc.out
    have hnn : (k < 1 ∧ Hid (decide (0 < o.links.length) = false ∧ decide (o.links.length < 1) = true)) ∨ (0 < k ∧ Hid (decide (0 < o.links.length) = true ∧ decide (o.links.length < 1) = false)) := by
     rw [← HN.out]; unfold Hid; simp only [decide_eq_true_eq, decide_eq_false_iff_not]; omega
    have Hok := Lib.hid (linksErr_ok hz)
    have Hbad := Lib.hid (linksErr_form hz); clear hz
    cases hk1 : (o.kind == 1) <;> rcases hnn with ⟨hnn, Hd⟩ | ⟨hnn, Hd⟩
    all_goals
     go_wp2
     go_ret
     refine ⟨?_, hb1 _ _ hb0⟩
     first
      | exact ret_int (Hok.out (by rw [Hfb.out, Hk3.out, hk1, Hd.out.1, Hd.out.2]; rfl)).symm
      | exact ret_int (Hbad.out (by rw [Hfb.out, Hk3.out, hk1, Hd.out.1, Hd.out.2]; rfl)).symm
 ·have Hk3 := Lib.hid hk3
  go_enter Tryz.func130, Tryz.ntmps130
  go_wp2
  go_loopw [12] (fun i wr => ∃ k : Nat, k ≤ n ∧ i = .int .i64 k ∧ scan (linkBad o) k = 0 ∧ wr = w.alloc (.cells #[.int .i64 o.id, .int .i64 o.kind, .slice a n cap, .string o.text] 46)) (fun i _ => n - (intOf i).toNat)
  case atStart => exact ⟨0, by omega, rfl, rfl, rfl⟩
  case round =>
   obtain ⟨k, hk, rfl, hs, rfl⟩ := hrel
   have Hsc := Lib.hid hs; clear hs
   by_cases hlt : k < n
   ·obtain ⟨b, off, rfl, hb, hcell⟩ := hc (by omega)
    clear hc
    cases hw : within (nth o.links k) 1 (o.id - 1)
    ·go_wp2_with (go_at_call 129; refine (within_any _ _ _ _).mono ?_; rintro e w' ⟨rfl, rfl⟩)
     go_ret
     exact ⟨ret_int (linksErr_bad Hsc.out (linkBad_range hw) (by omega) (by have := HN.out; omega)).symm, hb1 _ _ hb0⟩
    ·have Hst := Lib.hid (linkBad_state hw)
     have Hokk := Lib.hid (linkBad_ok hw)
     have hsp : (if o.kind = 3 then 2 else 1) = 2 := ite_kind Hk3.out
     have hkm : 1 ≤ k → ∀ x, Below w.heap.size w x → x.cell? ⟨b, off + (k - 1), none⟩ = some (.int .i64 (nth o.links (k - 1))) := fun _ x hx => hcell (k - 1) x (by omega) hx
     rw [hsp] at Hst Hokk
     clear hsp
     by_cases hf : 2 ≤ k
     ·have hkm' := hkm (by omega)
      clear hkm
      by_cases hle : nth o.links k ≤ nth o.links (k - 1)
      ·go_wp2_with (go_at_call 129; refine (within_any _ _ _ _).mono ?_; rintro e w' ⟨rfl, rfl⟩)
       go_ret
       exact ⟨ret_int (linksErr_bad Hsc.out (Hst.out hf hle) (by omega) (by have := HN.out; omega)).symm, hb1 _ _ hb0⟩
      ·go_wp2_with (go_at_call 129; refine (within_any _ _ _ _).mono ?_; rintro e w' ⟨rfl, rfl⟩)
       go_roundw
       case rel => exact ⟨k + 1, by omega, by go_num, scan_next Hsc.out (Hokk.out (by omega)), trivial⟩
       case measure => simp [intOf]; omega
     ·clear hkm
      go_wp2_with (go_at_call 129; refine (within_any _ _ _ _).mono ?_; rintro e w' ⟨rfl, rfl⟩)
      go_roundw
      case rel => exact ⟨k + 1, by omega, by go_num, scan_next Hsc.out (Hokk.out (by omega)), trivial⟩
      case measure => simp [intOf]; omega
   ·obtain rfl : k = n := by omega
    have hz : scan (linkBad o) o.links.length = 0 := by rw [← HN.out]; exact Hsc.out
    have hnn : (k < 1 ∧ Hid (decide (0 < o.links.length) = false ∧ decide (o.links.length < 1) = true)) ∨ (0 < k ∧ Hid (decide (0 < o.links.length) = true ∧ decide (o.links.length < 1) = false)) := by
     rw [← HN.out]; unfold Hid; simp only [decide_eq_true_eq, decide_eq_false_iff_not]; omega
    have Hok := Lib.hid (linksErr_ok hz)
    have Hbad := Lib.hid (linksErr_form hz); clear hz
    cases hk1 : (o.kind == 1) <;> rcases hnn with ⟨hnn, Hd⟩ | ⟨hnn, Hd⟩
    all_goals
     go_wp2
     go_ret
     refine ⟨?_, hb1 _ _ hb0⟩
     first
      | exact ret_int (Hok.out (by rw [Hfb.out, Hk3.out, hk1, Hd.out.1, Hd.out.2]; rfl)).symm
      | exact ret_int (Hbad.out (by rw [Hfb.out, Hk3.out, hk1, Hd.out.1, Hd.out.2]; rfl)).symm
end Go.Proofs.YtjdgpgfiomnjkaaGreatDoor
namespace Go.Proofs.YtjdgpgfiomnjkaaGreatDoor
open Go.RowKit
set_option linter.unusedVariables false
set_option linter.unusedSimpArgs false
set_option linter.unusedSectionVars false
variable [Ghost]
set_option maxHeartbeats 1000000 in
theorem check_any (o : Obj) (lv : Value) (S : Nat → Prop) (w : World) (ho : ObjIs S w o lv) :
  Calls Tryz.prog 67 #[.agg #[.int .i64 o.id, .int .i64 o.kind, lv, .string o.text]] w fun e w' => e = .returned (.int .i64 (checkObj o)) ∧ Below w.heap.size w w' := by
 have ho' := ho
 obtain ⟨a, n, cap, HN, rfl, hc1, hc2, hc8, hc⟩ := ho.1.open
 have htx : o.text.size ≤ 140737488351232 := ho.2.2.2
 have hb0 : Below w.heap.size w w := Below.refl _ _
 have hb1 := below_alloc w
 have Hc := Lib.hid (show checkObj o = if within o.id 1 99 = false then 3 else if within o.kind 1 3 = false then 7 else if 4 < n ∨ 8 < o.text.size then 2 else linksErr o by rw [HN.out]; rfl)
 clear hc
 cases hw1 : within o.id 1 99
 ·go_enter Tryz.func67, Tryz.ntmps67
  go_wp2_with (go_at_call 129; refine (within_any _ _ _ _).mono ?_; rintro e w' ⟨rfl, rfl⟩)
  go_ret
  exact ⟨ret_int (by rw [Hc.out]; simp [hw1]), hb1 _ _ hb0⟩
 ·cases hw2 : within o.kind 1 3
  ·go_enter Tryz.func67, Tryz.ntmps67
   go_wp2_with (go_at_call 129; refine (within_any _ _ _ _).mono ?_; rintro e w' ⟨rfl, rfl⟩)
   go_ret
   exact ⟨ret_int (by rw [Hc.out]; simp [hw1, hw2]), hb1 _ _ hb0⟩
  ·by_cases h4 : 4 < n
   ·go_enter Tryz.func67, Tryz.ntmps67
    go_wp2_with (go_at_call 129; refine (within_any _ _ _ _).mono ?_; rintro e w' ⟨rfl, rfl⟩)
    go_ret
    exact ⟨ret_int (by rw [Hc.out]; simp [hw1, hw2, h4]), hb1 _ _ hb0⟩
   ·by_cases h8 : 8 < o.text.size
    ·go_enter Tryz.func67, Tryz.ntmps67
     go_wp2_with (go_at_call 129; refine (within_any _ _ _ _).mono ?_; rintro e w' ⟨rfl, rfl⟩)
     go_ret
     exact ⟨ret_int (by rw [Hc.out]; simp [hw1, hw2, h8]), hb1 _ _ hb0⟩
    ·go_enter Tryz.func67, Tryz.ntmps67
     go_wp2_with (first
      | (go_at_call 129; refine (within_any _ _ _ _).mono ?_; rintro e w' ⟨rfl, rfl⟩)
      | (go_at_call 130; refine (links_any o _ _ _ (ho'.below (hb1 _ _ hb0)) hw1).mono ?_; rintro e w' ⟨rfl, hb2⟩))
     go_ret
     exact ⟨ret_int (by rw [Hc.out]; simp [hw1, hw2, h4, h8]), below_next (hb1 _ _ hb0) hb2⟩
set_option maxHeartbeats 2000000 in
theorem checkObject_any (o : Obj) (lv : Value) (S : Nat → Prop) (w : World) (ho : ObjIs S w o lv) :
  Calls Tryz.prog 71 #[.agg #[.int .i64 o.id, .int .i64 o.kind, lv, .string o.text]] w fun e w' => e = .returned (.int .i64 (checkObj o)) ∧ Below w.heap.size w w' := by
 obtain ⟨a, n, cap, HN, rfl, hc1, hc2, hc8, hc⟩ := ho.1.open
 have htx : o.text.size ≤ 140737488351232 := ho.2.2.2
 have hb0 : Below w.heap.size w w := Below.refl _ _
 have hb1 := below_alloc w
 have hb2 := below_drewN w
 have hb3 := below_drew w
 have Hc := Lib.hid (show checkObj o = if within o.id 1 99 = false then 3 else if within o.kind 1 3 = false then 7 else if 4 < n ∨ 8 < o.text.size then 2 else linksErr o by rw [HN.out]; rfl)
 have Hfb := Lib.hid (formBad_eq o)
 cases hw1 : within o.id 1 99
 ·go_enter Tryz.func71, Tryz.ntmps71
  go_wp2_with (go_at_call 105; refine (between_any _ _ _ _).mono ?_; rintro e w' ⟨rfl, rfl⟩)
  go_ret
  exact ⟨ret_int (by rw [Hc.out]; simp [hw1]), hb1 _ _ hb0⟩
 ·have hid := within_true hw1
  cases hw2 : within o.kind 1 3
  ·go_enter Tryz.func71, Tryz.ntmps71
   go_wp2_with (go_at_call 105; refine (between_any _ _ _ _).mono ?_; rintro e w' ⟨rfl, rfl⟩)
   go_ret
   exact ⟨ret_int (by rw [Hc.out]; simp [hw1, hw2]), hb1 _ _ hb0⟩
  ·by_cases h4 : 4 < n
   ·go_enter Tryz.func71, Tryz.ntmps71
    go_wp2_with (go_at_call 105; refine (between_any _ _ _ _).mono ?_; rintro e w' ⟨rfl, rfl⟩)
    go_ret
    exact ⟨ret_int (by rw [Hc.out]; simp [hw1, hw2, h4]), hb1 _ _ hb0⟩
   ·by_cases h8 : 8 < o.text.size
    ·go_enter Tryz.func71, Tryz.ntmps71
     go_wp2_with (go_at_call 105; refine (between_any _ _ _ _).mono ?_; rintro e w' ⟨rfl, rfl⟩)
     go_ret
     exact ⟨ret_int (by rw [Hc.out]; simp [hw1, hw2, h8]), hb1 _ _ hb0⟩
    ·have He := Lib.hid (show checkObj o = linksErr o by rw [Hc.out]; simp [hw1, hw2, h4, h8])
     clear Hc
     go_enter Tryz.func71, Tryz.ntmps71
     go_wp2_with (go_at_call 105; refine (between_any _ _ _ _).mono ?_; rintro e w' ⟨rfl, rfl⟩)
     clear hw1 hw2
     obtain ⟨R, hR, hR1, hx0, hx1, hx2, hx3⟩ := cls_box4 w (.int .i64 o.id) (.int .i64 o.kind) (.slice a n cap) (.string o.text) 46
     have hRb := hR.below
     have hRn := hR.drewN
     have hRd := hR.drew
     clear hb1 hb2 hb3 hb0
     go_loopw [3] (fun i wr => ∃ k : Nat, k ≤ n ∧ i = .int .i64 k ∧ scan (linkBad o) k = 0 ∧ In R wr) (fun i _ => n - (intOf i).toNat)
     case atStart => exact ⟨0, by omega, rfl, rfl, hR1⟩
     case round =>
      obtain ⟨k, hk, rfl, hs, hRw⟩ := hrel
      clear hR1
      have Hsc := Lib.hid hs; clear hs
      by_cases hlt : k < n
      ·obtain ⟨b, off, rfl, hb, hcell⟩ := hc (by omega)
       clear hc
       have hck : ∀ x, In R x → x.cell? ⟨b, off + k, none⟩ = some (.int .i64 (nth o.links k)) := fun x hx => hcell k x hlt (hRb x hx)
       have hkm : 1 ≤ k → ∀ x, In R x → x.cell? ⟨b, off + (k - 1), none⟩ = some (.int .i64 (nth o.links (k - 1))) := fun _ x hx => hcell (k - 1) x (by omega) (hRb x hx)
       clear hcell
       have hi1 : (0 : Int) ≤ (k : Int) := by omega
       have hi2 : (k : Int) < (n : Int) := by omega
       have hwr := wrap_in (n := o.id - 1) (by omega)
       cases hw : within (nth o.links k) 1 (o.id - 1)
       ·go_wp2_with fail
        go_quiet ((go_at_call 105; exact quiet_same (between_any _ _ _ _)))
        go_wp2
        go_ret
        exact ⟨ret_int (by rw [He.out]; exact (linksErr_bad Hsc.out (linkBad_range hw) (by omega) (by have := HN.out; omega)).symm), hRb _ (hRn _ _ hRw)⟩
       ·have Hst := Lib.hid (linkBad_state hw)
        have Hokk := Lib.hid (linkBad_ok hw)
        go_wp2_with fail
        go_quiet ((go_at_call 105; exact quiet_same (between_any _ _ _ _)))
        clear hwr
        have hRw' := hRn _ nq hRw
        generalize wr.drewN nq = wr' at *
        clear hRw
        by_cases hk0 : 0 < k
        ·have hkm' := hkm hk0
         clear hkm
         have hi3 : (0 : Int) ≤ (k : Int) - 1 := by omega
         have hi4 : (1 : Int) ≤ (k : Int) := by omega
         have hi5 : (k : Int) - 1 < (n : Int) := by omega
         have hi6 : (0 : Int) < (k : Int) := by omega
         have hwr2 := wrap_in (n := (k : Int) - 1) (by omega)
         have htn : ((k : Int) - 1).toNat = k - 1 := by omega
         cases hk3 : (o.kind == 3)
         ·rw [show (if o.kind = 3 then 2 else 1) = 1 from ite_kind hk3] at Hst Hokk
          by_cases hle : nth o.links k ≤ nth o.links (k - 1)
          ·have hf : 1 ≤ k := hk0
           go_wp2_with fail
           go_quiet (fail)
           go_wp2
           go_ret
           exact ⟨ret_int (by rw [He.out]; exact (linksErr_bad Hsc.out (Hst.out hf hle) (by omega) (by have := HN.out; omega)).symm), hRb _ (hRn _ _ hRw')⟩
          ·go_wp2_with fail
           go_quiet (fail)
           go_wp2
           go_roundw
           case rel => exact ⟨k + 1, by omega, by go_num, scan_next Hsc.out (Hokk.out (by omega)), hRn _ _ hRw'⟩
           case measure => simp [intOf]; omega
         ·rw [show (if o.kind = 3 then 2 else 1) = 2 from ite_kind hk3] at Hst Hokk
          by_cases hk1 : 2 ≤ k
          ·have hq : ((k : Int) == 1) = false := by simp; omega
           by_cases hle : nth o.links k ≤ nth o.links (k - 1)
           ·have hf := hk1
            go_wp2_with fail
            go_quiet (fail)
            go_wp2
            go_ret
            exact ⟨ret_int (by rw [He.out]; exact (linksErr_bad Hsc.out (Hst.out hf hle) (by omega) (by have := HN.out; omega)).symm), hRb _ (hRn _ _ hRw')⟩
           ·go_wp2_with fail
            go_quiet (fail)
            go_wp2
            go_roundw
            case rel => exact ⟨k + 1, by omega, by go_num, scan_next Hsc.out (Hokk.out (by omega)), hRn _ _ hRw'⟩
            case measure => simp [intOf]; omega
          ·have hq : ((k : Int) == 1) = true := by simp; omega
           go_wp2_with fail
           go_quiet (fail)
           go_wp2
           go_roundw
           case rel => exact ⟨k + 1, by omega, by go_num, scan_next Hsc.out (Hokk.out (by omega)), hRn _ _ hRw'⟩
           case measure => simp [intOf]; omega
        ·clear hkm
         have hd : decide ((0 : Int) < (k : Int)) = false := by simp; omega
         have Hf := Lib.hid (show ¬ (if o.kind = 3 then 2 else 1) ≤ k by split <;> omega)
         go_wp2_with fail
         go_quiet (fail)
         go_wp2
         go_roundw
         case rel => exact ⟨k + 1, by omega, by go_num, scan_next Hsc.out (Hokk.out (fun h => Hf.out h.1)), hRn _ _ hRw'⟩
         case measure => simp [intOf]; omega
      ·obtain rfl : k = n := by omega
       have hz : scan (linkBad o) o.links.length = 0 := by rw [← HN.out]; exact Hsc.out
       have hnn : (k < 1 ∧ Hid (decide (0 < o.links.length) = false ∧ decide (o.links.length < 1) = true)) ∨ (0 < k ∧ Hid (decide (0 < o.links.length) = true ∧ decide (o.links.length < 1) = false)) := by
        rw [← HN.out]; unfold Hid; simp only [decide_eq_true_eq, decide_eq_false_iff_not]; omega
       have Hok := Lib.hid (linksErr_ok hz)
       have Hbad := Lib.hid (linksErr_form hz); clear hz
       cases hk3 : (o.kind == 3) <;> cases hk1 : (o.kind == 1) <;> rcases hnn with ⟨hnn, Hd⟩ | ⟨hnn, Hd⟩
       all_goals
        go_wp2
        go_ret
        refine ⟨?_, hRb _ hRw⟩
        first
         | exact ret_int (by rw [He.out, Hok.out (by rw [Hfb.out, hk3, hk1, Hd.out.1, Hd.out.2]; rfl)])
         | exact ret_int (by rw [He.out, Hbad.out (by rw [Hfb.out, hk3, hk1, Hd.out.1, Hd.out.2]; rfl)])
end Go.Proofs.YtjdgpgfiomnjkaaGreatDoor
namespace Go.Proofs.YtjdgpgfiomnjkaaGreatDoor
open Go.RowKit
set_option linter.unusedVariables false
set_option linter.unusedSimpArgs false
set_option linter.unusedSectionVars false
variable [Ghost]
theorem Tryz.infoByte : (Tryz.prog.info? 5).map (fun i => (i.zero, i.size, i.bytes)) = some (some (.int .u8 0), 1, 1) := by kernel_rfl
set_option maxHeartbeats 1000000 in
theorem put_any (xs : List Int) (v : Value) (S : Nat → Prop) (w : World) (bb : Nat) (bv : Value) (n : Nat) (ys : List Value) (hv : IntsV S w v xs) (hS : ∀ b, S b → b < w.heap.size ∧ b ≠ bb ∧ bv.ownBlock ≠ some b)
  (hx : xs.length ≤ 100000) (hn : n ≤ 100000) (hb : w.heap[bb]? = some (.cells #[bv] 138 (0, 0))) (ho : w.ownsRow bb 5 1 bv n ys) :
  Calls Tryz.prog 95 #[v, .pointer (some ⟨bb, 0, none⟩)] w fun e w' => e = .returned (.tuple #[]) ∧ ∃ bv', w'.heap[bb]? = some (.cells #[bv'] 138 (0, 0)) ∧
   w'.ownsRow bb 5 1 bv' (n + xs.length) (ys ++ xs.map fun x => .int .u8 (b8 x)) ∧ Below bb w w' := by
 obtain ⟨a, m, cap, HN, rfl, hc1, hc2, hc8, hc⟩ := hv.open
 obtain ⟨i0, hi, hz0, hz1, hz2⟩ := info_parts Tryz.infoByte
 have hbs := lt_of_block hb
 have hw8 := b8_wrap
 have hmx : m ≤ 100000 := by rw [HN.out]; exact hx
 have HS := Lib.hid hS; clear hS
 go_enter Tryz.func95, Tryz.ntmps95
 go_wp2
 go_loopw [7] (fun i wr => ∃ k : Nat, ∃ bv' : Value, k ≤ m ∧ i = .int .i64 k ∧ wr.heap[bb]? = some (.cells #[bv'] 138 (0, 0)) ∧ wr.ownsRow bb 5 1 bv' (n + k) (putTo ys xs k) ∧
   Upd (fun b => b = bb ∨ bv.ownBlock = some b) w wr ∧ (∀ g, bv'.ownBlock = some g → bv.ownBlock = some g ∨ w.heap.size ≤ g)) (fun i _ => m - (intOf i).toNat)
 case atStart => exact ⟨0, bv, by omega, rfl, hb, by rw [putTo_zero]; exact ho, Upd.refl _ _, fun g h => .inl h⟩
 case round =>
  obtain ⟨k, bv', hk, rfl, hbr, hor, hup, hgr⟩ := hrel
  have Hgr := Lib.hid hgr; clear hgr
  have hcb := cell_of_one hbr
  have hsz := hup.size
  by_cases hlt : k < m
  ·obtain ⟨b, off, rfl, hSb, hcell⟩ := hc (by omega)
   have hck : wr.cell? ⟨b, off + k, none⟩ = some (.int .i64 (nth xs k)) :=
    hup.cell (hcell k w hlt (Below.refl _ _)) (fun h => by rcases h with h | h; exact (HS.out b hSb).2.1 h; exact (HS.out b hSb).2.2 h)
   clear hcell hc
   go_wp2_with (at_builtin; refine wpList_append_own_at _ rfl _ _ 138 rfl bb 5 i0 (.int .u8 0) 1 1 Tryz.underlying138 hi hz0 hz1 hz2 rfl (by decide) _ _ _ rfl (hor.alloc _) ⟨wr.heap.size, 0, none⟩ 1 1 [.int .u8 (b8 (nth xs k))] rfl rfl ?c1 ?c2 ?c3 ?c4 ?c5 ?_)
   case c1 => exact cell_one_new _ _ _
   case c2 => intro u hu; simp at hu; subst hu; rfl
   case c3 => unfold maxLen; omega
   case c4 => omega
   case c5 => simp; omega
   ·intro v' w1 hown' hgrow _ hat
    have R := held_step (T := fun b => b = bb ∨ bv.ownBlock = some b) (by decide) hbs (.inl rfl) (fun g h => .inr h) hbr hor hup Hgr.out hown' hgrow hat
    obtain ⟨a', c', hv'⟩ := own_shape hown'
    clear hgrow hat hor hcb
    subst hv'
    obtain ⟨hc1', hf1', hR⟩ := R
    have HR := Lib.hid hR; clear hR hown'
    have hst := hup.size
    go_wp2
    go_roundw
    case rel =>
     have h2 := HR.out.2.1
     rw [putTo_next (by rw [← HN.out]; exact hlt)] at h2
     exact ⟨k + 1, _, by omega, by go_num, HR.out.1, h2, HR.out.2.2⟩
    case measure => simp [intOf]; omega
  ·obtain rfl : k = m := by omega
   go_wp2
   go_end0
   refine ⟨rfl, bv', hbr, ?_, hup.below (Nat.le_of_lt hbs) (fun b h => ?_)⟩
   ·rw [← HN.out, ← putTo_all ys xs, ← HN.out]; exact hor
   ·rcases h with h | h
    ·omega
    ·exact (ho.lt b h).1
end Go.Proofs.YtjdgpgfiomnjkaaGreatDoor
namespace Go.Proofs.YtjdgpgfiomnjkaaGreatDoor
open Go.RowKit
set_option linter.unusedVariables false
set_option linter.unusedSimpArgs false
set_option linter.unusedSectionVars false
variable [Ghost]
theorem ret_si {s s' : ByteArray} {a b : Int} (hs : s = s') (h : a = b) : Ending.returned (.tuple #[.string s, .int .i64 a]) = .returned (.tuple #[.string s', .int .i64 b]) := by rw [hs, h]
def encE (o : Obj) : ByteArray := if checkObj o = 0 then encB o else ByteArray.empty
set_option maxHeartbeats 2000000 in
theorem encode_any (o : Obj) (lv : Value) (S : Nat → Prop) (w : World) (ho : ObjIs S w o lv) :
  Calls Tryz.prog 29 #[.agg #[.int .i64 o.id, .int .i64 o.kind, lv, .string o.text]] w fun e w' => e = .returned (.tuple #[.string (encE o), .int .i64 (checkObj o)]) ∧ Below w.heap.size w w' := by
 have hmf : ∀ (fn : Fn) (first cap : Array Value) (w : World), (Instr.makeFunc fn first cap).run Tryz.prog w = .ok (.func fn first cap) w := fun _ _ _ _ => rfl
 have ho' := ho
 obtain ⟨a, n, cap, HN, rfl, hc1, hc2, hc8, hc⟩ := ho.1.open
 clear hc
 obtain ⟨R, hR, hR1, hx0, hx1, hx2, hx3⟩ := cls_box4 w (.int .i64 o.id) (.int .i64 o.kind) (.slice a n cap) (.string o.text) 46
 have hRb := hR.below
 have hRn := hR.next
 have hRa := hR.alloc
 by_cases hz : checkObj o = 0
 ·have hz' : (checkObj o == 0) = true := by simpa using hz
  obtain ⟨hid, hki, hl4, ht8, hle⟩ := checkObj_ok hz
  clear hle
  have Hz := Lib.hid hz; clear hz
  go_enter Tryz.func29, Tryz.ntmps29
  go_wp2_with (go_at_call 67; refine (check_any o _ S _ (ho'.below (hRb _ hR1))).mono ?_; rintro e w2 ⟨rfl, hb2⟩; have hR2 := hRn _ _ hR1 hb2)
  have hsz2 := (hRb _ hR2).size
  have hw2 : Below w2.heap.size w2 ((w2.alloc (.cells #[.slice none 0 0] 138)).alloc (.cells #[.int .i64 o.id, .int .i64 o.kind, .int .i64 n] 3)) :=
   ((Below.refl _ _).alloc (Nat.le_refl _) _).alloc (by simp) _
  have hI1 := ints_new (w2.alloc (.cells #[.slice none 0 0] 138)) [o.id, o.kind, (n : Int)] 3 (w2.heap.size + 1) (by simp) (by simp) (by intro x hx; simp only [List.mem_cons, List.not_mem_nil, or_false] at hx; unfold I64; rcases hx with rfl | rfl | rfl <;> omega)
  have hbk1 : ((w2.alloc (.cells #[.slice none 0 0] 138)).alloc (.cells #[.int .i64 o.id, .int .i64 o.kind, .int .i64 n] 3)).heap[w2.heap.size]? = some (.cells #[.slice none 0 0] 138 (0, 0)) := by
   rw [Below.heap_alloc _ _ _ (by simp)]; exact heap_alloc_new w2 _
  refine (put_any [o.id, o.kind, (n : Int)] _ _ _ w2.heap.size (.slice none 0 0) 0 [] hI1 ?_ (by simp) (by omega) hbk1 (World.ownsRow_nil _ _ _ _)).mono ?_
  ·intro b hb; subst hb; exact ⟨by simp, by omega, by simp [Value.ownBlock]⟩
  rintro e w3 ⟨rfl, bv3, hbk3, hown3, hB3⟩
  have hB3' := hw2.trans hB3
  have hR3 := hRn _ _ hR2 hB3'
  have Hbk3 := Lib.hid hbk3
  have Hown3 := Lib.hid hown3
  clear hbk1 hI1 hw2 hB3 hbk3 hown3
  go_wp2_with fail
  have hI2 := ho.1.lt.below (hRb _ hR3)
  refine (put_any o.links _ _ _ w2.heap.size bv3 _ _ hI2 ?_ (by omega) (by simp) Hbk3.out Hown3.out).mono ?_
  ·rintro b ⟨_, hb⟩
   refine ⟨by have := (hRb _ hR3).size; omega, by omega, fun h => ?_⟩
   have := (Hown3.out.lt _ h).1; omega
  rintro e w4 ⟨rfl, bv4, hbk4, hown4, hB4⟩
  have hR4 := hRn _ _ hR2 (hB3'.trans hB4)
  have Hbk4 := Lib.hid hbk4
  have Hown4 := Lib.hid hown4
  have hsz4 : w2.heap.size ≤ w4.heap.size := Nat.le_trans hB3'.size hB4.size
  clear hI2 Hbk3 Hown3 hbk4 hown4
  go_wp2_with fail
  have hI3 := ints_new w4 [(o.text.size : Int)] 3 w4.heap.size rfl (by simp) (by intro x hx; simp only [List.mem_cons, List.not_mem_nil, or_false] at hx; unfold I64; subst hx; omega)
  have hbk4' : (w4.alloc (.cells #[.int .i64 o.text.size] 3)).heap[w2.heap.size]? = some (.cells #[bv4] 138 (0, 0)) := by
   rw [Below.heap_alloc _ _ _ (lt_of_block Hbk4.out)]; exact Hbk4.out
  refine (put_any [(o.text.size : Int)] _ _ _ w2.heap.size bv4 _ _ hI3 ?_ (by simp) (by simp; omega) hbk4' (Hown4.out.alloc _)).mono ?_
  ·intro b hb; subst hb
   refine ⟨by simp, fun e => by have := lt_of_block Hbk4.out; omega, fun h => ?_⟩
   have := (Hown4.out.lt _ h).2; omega
  rintro e w5 ⟨rfl, bv5, hbk5, hown5, hB5⟩
  have hR5 := hRn _ _ hR2 ((hB3'.trans hB4).trans (((Below.refl _ _).alloc (by have := lt_of_block Hbk4.out; omega) _).trans hB5))
  clear hI3 hbk4' Hbk4 Hown4
  have hc5 := cell_of_one hbk5
  have hsz5 := lt_of_block hbk5
  have Hown5 := Lib.hid hown5
  clear hbk5 hown5
  obtain ⟨i0, hi, hz0, hz1, hz2⟩ := info_parts Tryz.infoByte
  go_wp2_with (at_builtin; refine Lib.wpList_append_own_string _ rfl _ _ 138 9 rfl w2.heap.size 5 i0 Tryz.underlying138 Tryz.underlying9 hi hz0 hz1 hz2 bv5 _ _ rfl Hown5.out o.text rfl ?c1 ?c2 ?c3 ?_)
  case c1 => unfold maxLen; simp; omega
  case c2 => simp; omega
  case c3 => omega
  intro v6 w6 hown6 hgrow6 _
  obtain ⟨g, cap6, rfl, hl6, hc6⟩ := own_bytes hown6 (encN_cells o n HN.out) (by omega)
  have kc := fun (c : Nat) => run_convert_bytes_arg (P := Tryz.prog) w6 138 5 Tryz.underlying138 Tryz.underlying5 g 0 _ c (encN o) hl6 hc6 9 Tryz.underlying9
  have hR6 := hRn _ _ hR2 (((hB3'.trans hB4).trans (((Below.refl _ _).alloc (by omega) _).trans hB5)).grown hgrow6 (by omega) (fun k hk => (Hown5.out.lt _ hk).1))
  clear hc6 hown6 hgrow6 Hown5
  go_wp2
  go_ret2
  exact ⟨ret_si (by rw [encE, if_pos Hz.out]; rfl) Hz.out.symm, hRb _ hR6⟩
 ·have hz' : (checkObj o == 0) = false := by simpa using hz
  have Hz := Lib.hid hz; clear hz
  go_enter Tryz.func29, Tryz.ntmps29
  go_wp2_with (go_at_call 67; refine (check_any o _ S _ (ho'.below (hRb _ hR1))).mono ?_; rintro e w' ⟨rfl, hb2⟩; have hR2 := hRn _ _ hR1 hb2)
  go_ret2
  exact ⟨by rw [encE, if_neg Hz.out]; rfl, hRb _ hR2⟩
end Go.Proofs.YtjdgpgfiomnjkaaGreatDoor
namespace Go.Proofs.YtjdgpgfiomnjkaaGreatDoor
open Go.RowKit
set_option linter.unusedVariables false
set_option linter.unusedSimpArgs false
set_option linter.unusedSectionVars false
variable [Ghost]
set_option maxHeartbeats 1000000 in
theorem sameInts_any (xs ys : List Int) (v v' : Value) (S S' : Nat → Prop) (w : World) (h1 : IntsV S w v xs) (h2 : IntsV S' w v' ys) :
  Calls Tryz.prog 60 #[v, v'] w fun e w' => e = .returned (.bool (sameInts xs ys)) ∧ Below w.heap.size w w' := by
 obtain ⟨a, n, cap, HN, rfl, hc1, hc2, hc8, hc⟩ := h1.open
 obtain ⟨a', n', cap', HN', rfl, hc1', hc2', hc8', hc'⟩ := h2.open
 obtain ⟨R, hR, hR1, _⟩ := cls_plain w
 have hRb := hR.below
 have hRn := hR.drewN
 by_cases hl : n = n'
 ·subst hl
  have Hall := Lib.hid (sameInts_all (xs := xs) (ys := ys) (by rw [← HN.out, ← HN'.out]))
  go_enter Tryz.func60, Tryz.ntmps60
  go_wp2
  go_loopw [5] (fun i wr => ∃ k : Nat, k ≤ n ∧ i = .int .i64 k ∧ Hid (∀ j, j < k → nth xs j = nth ys j) ∧ In R wr) (fun i _ => n - (intOf i).toNat)
  case atStart => exact ⟨0, by omega, rfl, fun j hj => absurd hj (by omega), hR1⟩
  case round =>
   obtain ⟨k, hk, rfl, Hs, hRw⟩ := hrel
   clear hR1
   by_cases hlt : k < n
   ·obtain ⟨b, off, rfl, hb, hcell⟩ := hc (by omega)
    obtain ⟨b', off', rfl, hb', hcell'⟩ := hc' (by omega)
    have hck : ∀ x, In R x → x.cell? ⟨b, off + k, none⟩ = some (.int .i64 (nth xs k)) := fun x hx => hcell k x hlt (hRb x hx)
    have hck' : ∀ x, In R x → x.cell? ⟨b', off' + k, none⟩ = some (.int .i64 (nth ys k)) := fun x hx => hcell' k x hlt (hRb x hx)
    clear hc hc' hcell hcell'
    have hi1 : (0 : Int) ≤ (k : Int) := by omega
    have hi2 : (k : Int) < (n : Int) := by omega
    by_cases he : nth xs k = nth ys k
    ·have hq : (nth xs k != nth ys k) = false := by simpa using he
     have He := Lib.hid he; clear he
     go_wp2_with fail
     go_quiet (fail)
     go_wp2
     go_roundw
     case rel => exact ⟨k + 1, by omega, by go_num, all_next Hs.out He.out, hRn _ _ hRw⟩
     case measure => simp [intOf]; omega
    ·have hq : (nth xs k != nth ys k) = true := by simpa using he
     have Hq := Lib.hid (sameInts_at he); clear he
     go_wp2_with fail
     go_quiet (fail)
     go_wp2
     go_ret
     exact ⟨by rw [Hq.out]; rfl, hRb _ (hRn _ _ hRw)⟩
   ·have Hk := Lib.hid (show sameInts xs ys = true from Hall.out (fun j hj => Hs.out j (by have := HN.out; omega)))
    go_wp2
    go_ret
    exact ⟨by rw [Hk.out]; rfl, hRb _ hRw⟩
 ·have Hl := Lib.hid (sameInts_len (xs := xs) (ys := ys) (by rw [← HN.out, ← HN'.out]; exact hl))
  go_enter Tryz.func60, Tryz.ntmps60
  go_wp2
  go_ret
  exact ⟨by rw [Hl.out]; rfl, hRb _ hR1⟩
set_option maxHeartbeats 1000000 in
theorem sameObject_any (o p : Obj) (lv lv' : Value) (S S' : Nat → Prop) (w : World) (ho : ObjIs S w o lv) (hp : ObjIs S' w p lv') :
  Calls Tryz.prog 69 #[.agg #[.int .i64 o.id, .int .i64 o.kind, lv, .string o.text], .agg #[.int .i64 p.id, .int .i64 p.kind, lv', .string p.text]] w
   fun e w' => e = .returned (.bool (sameObj o p)) ∧ Below w.heap.size w w' := by
 obtain ⟨q, rfl⟩ := ho.1.shape
 obtain ⟨q', rfl⟩ := hp.1.shape
 have hb0 : Below w.heap.size w w := Below.refl _ _
 have hb1 := below_alloc w
 have Hd := Lib.hid (show sameObj o p = ((o.id == p.id) && (o.kind == p.kind) && (o.text.toList == p.text.toList) && sameInts o.links p.links) from rfl)
 cases e1 : (o.id == p.id)
 ·go_enter Tryz.func69, Tryz.ntmps69
  go_wp2
  go_ret
  exact ⟨by rw [Hd.out, e1]; rfl, hb1 _ _ (hb1 _ _ hb0)⟩
 ·cases e2 : (o.kind == p.kind)
  ·go_enter Tryz.func69, Tryz.ntmps69
   go_wp2
   go_ret
   exact ⟨by rw [Hd.out, e1, e2]; rfl, hb1 _ _ (hb1 _ _ hb0)⟩
  ·cases e3 : (o.text.toList == p.text.toList)
   ·go_enter Tryz.func69, Tryz.ntmps69
    go_wp2
    go_ret
    exact ⟨by rw [Hd.out, e1, e2, e3]; rfl, hb1 _ _ (hb1 _ _ hb0)⟩
   ·go_enter Tryz.func69, Tryz.ntmps69
    go_wp2_with (go_at_call 60; refine (sameInts_any o.links p.links _ _ _ _ _ (ho.1.below (hb1 _ _ (hb1 _ _ hb0))) (hp.1.below (hb1 _ _ (hb1 _ _ hb0)))).mono ?_; rintro e w' ⟨rfl, hb2⟩)
    go_ret
    exact ⟨by rw [Hd.out, e1, e2, e3]; rfl, below_next (hb1 _ _ (hb1 _ _ hb0)) hb2⟩
def RetStore (w w' : World) (e : Ending) (l : List Obj) : Prop := ∃ v, e = .returned v ∧ StoreV (fun b => w.heap.size ≤ b) w' v l ∧ Below w.heap.size w w'
def tee : ByteArray := ⟨#[116]⟩
def shelfL : List Obj := [⟨1, 1, [], tee⟩, ⟨2, 2, [1], tee⟩, ⟨3, 3, [2], tee⟩, ⟨4, 2, [1, 2], tee⟩, ⟨5, 3, [4, 3], tee⟩]
set_option maxHeartbeats 1000000 in
theorem obj_any (id kind : Int) (a : Option Addr) (n c : Nat) (w : World) :
  Calls Tryz.prog 68 #[.int .i64 id, .int .i64 kind, .slice a n c] w
   fun e w' => e = .returned (.agg #[.int .i64 id, .int .i64 kind, .slice a n c, .string tee]) ∧ Below w.heap.size w w' := by
 go_enter Tryz.func68, Tryz.ntmps68
 go_wp2
 exact bodyPost_ret (v := .agg #[.int .i64 id, .int .i64 kind, .slice a n c, .string tee]) (by simp [results, Tryz.results68, go_sem]; rfl) rfl ⟨rfl, by simpa using ((Below.refl _ _).alloc (Nat.le_refl _) _)⟩
theorem small64 (x : Int) (h : 0 ≤ x ∧ x ≤ 1000) : I64 x := by unfold I64; omega
theorem shelf_end {w w1 w2 w3 w4 w5 : World} {t tt : TypeId} (hb1 : Below w.heap.size w w1)
  (hb2 : Below (w1.alloc (.cells #[.int .i64 1] t)).heap.size (w1.alloc (.cells #[.int .i64 1] t)) w2)
  (hb3 : Below (w2.alloc (.cells #[.int .i64 2] t)).heap.size (w2.alloc (.cells #[.int .i64 2] t)) w3)
  (hb4 : Below (w3.alloc (.cells #[.int .i64 1, .int .i64 2] t)).heap.size (w3.alloc (.cells #[.int .i64 1, .int .i64 2] t)) w4)
  (hb5 : Below (w4.alloc (.cells #[.int .i64 4, .int .i64 3] t)).heap.size (w4.alloc (.cells #[.int .i64 4, .int .i64 3] t)) w5) :
  StoreV (fun b => w.heap.size ≤ b) (w5.alloc (.cells #[.int .i64 1, .int .i64 1, .slice none 0 0, .string tee, .int .i64 2, .int .i64 2, .slice (some ⟨w1.heap.size, 0, none⟩) 1 1, .string tee,
    .int .i64 3, .int .i64 3, .slice (some ⟨w2.heap.size, 0, none⟩) 1 1, .string tee, .int .i64 4, .int .i64 2, .slice (some ⟨w3.heap.size, 0, none⟩) 2 2, .string tee,
    .int .i64 5, .int .i64 3, .slice (some ⟨w4.heap.size, 0, none⟩) 2 2, .string tee] tt)) (.slice (some ⟨w5.heap.size, 0, none⟩) 5 5) shelfL ∧ Below w.heap.size w w5 := by
 have a2 := (Below.refl w1.heap.size w1).alloc (Nat.le_refl _) (.cells #[.int .i64 1] t)
 have a3 := (Below.refl w2.heap.size w2).alloc (Nat.le_refl _) (.cells #[.int .i64 2] t)
 have a4 := (Below.refl w3.heap.size w3).alloc (Nat.le_refl _) (.cells #[.int .i64 1, .int .i64 2] t)
 have a5 := (Below.refl w4.heap.size w4).alloc (Nat.le_refl _) (.cells #[.int .i64 4, .int .i64 3] t)
 have c2 := below_next hb1 (below_next a2 hb2)
 have c3 := below_next c2 (below_next a3 hb3)
 have c4 := below_next c3 (below_next a4 hb4)
 have c5 := below_next c4 (below_next a5 hb5)
 have s1 := hb1.size
 have s2 := c2.size
 have s3 := c3.size
 have s4 := c4.size
 have s5 := c5.size
 have i1 := ((((ints_new w1 [1] t _ rfl (by simp) (by intro x hx; simp only [List.mem_cons, List.not_mem_nil, or_false] at hx; subst hx; exact small64 _ (by omega))).below hb2).below (below_next a3 hb3)).below (below_next a4 hb4)).below (below_next a5 hb5)
 have i2 := (((ints_new w2 [2] t _ rfl (by simp) (by intro x hx; simp only [List.mem_cons, List.not_mem_nil, or_false] at hx; subst hx; exact small64 _ (by omega))).below hb3).below (below_next a4 hb4)).below (below_next a5 hb5)
 have i3 := ((ints_new w3 [1, 2] t _ rfl (by simp) (by intro x hx; simp only [List.mem_cons, List.not_mem_nil, or_false] at hx; rcases hx with rfl | rfl <;> exact small64 _ (by omega))).below hb4).below (below_next a5 hb5)
 have i4 := (ints_new w4 [4, 3] t _ rfl (by simp) (by intro x hx; simp only [List.mem_cons, List.not_mem_nil, or_false] at hx; rcases hx with rfl | rfl <;> exact small64 _ (by omega))).below hb5
 refine ⟨?_, c5⟩
 have h := store_new (S := fun b => w.heap.size ≤ b) w5 shelfL (fun i => [.slice none 0 0, .slice (some ⟨w1.heap.size, 0, none⟩) 1 1, .slice (some ⟨w2.heap.size, 0, none⟩) 1 1, .slice (some ⟨w3.heap.size, 0, none⟩) 2 2, .slice (some ⟨w4.heap.size, 0, none⟩) 2 2].getD i .nilFunc) tt _ rfl (by decide) (fun i hi => ?_)
 ·exact h.weaken fun b hb => by rcases hb with rfl | hb; exact s5; exact hb
 ·have ht : tee.size ≤ 140737488351232 := by decide
  match i, hi with
  | 0, _ => exact ⟨IntsV.nil _ _ _ _ (by omega), small64 _ (by decide), small64 _ (by decide), ht⟩
  | 1, _ => exact ⟨i1.weaken fun b hb => by subst hb; exact s1, small64 _ (by decide), small64 _ (by decide), ht⟩
  | 2, _ => exact ⟨i2.weaken fun b hb => by subst hb; exact s2, small64 _ (by decide), small64 _ (by decide), ht⟩
  | 3, _ => exact ⟨i3.weaken fun b hb => by subst hb; exact s3, small64 _ (by decide), small64 _ (by decide), ht⟩
  | 4, _ => exact ⟨i4.weaken fun b hb => by subst hb; exact s4, small64 _ (by decide), small64 _ (by decide), ht⟩
set_option maxHeartbeats 1000000 in
theorem shelf_any (w : World) : Calls Tryz.prog 57 #[] w fun e w' => RetStore w w' e shelfL := by
 go_enter Tryz.func57, Tryz.ntmps57
 go_wp2_with fail
 refine (obj_any _ _ _ _ _ _).mono ?_; rintro e w1 ⟨rfl, hb1⟩
 go_wp2_with fail
 refine (obj_any _ _ _ _ _ _).mono ?_; rintro e w2 ⟨rfl, hb2⟩
 go_wp2_with fail
 refine (obj_any _ _ _ _ _ _).mono ?_; rintro e w3 ⟨rfl, hb3⟩
 go_wp2_with fail
 refine (obj_any _ _ _ _ _ _).mono ?_; rintro e w4 ⟨rfl, hb4⟩
 go_wp2_with fail
 refine (obj_any _ _ _ _ _ _).mono ?_; rintro e w5 ⟨rfl, hb5⟩
 have HE := Lib.hid (shelf_end (tt := 46) hb1 hb2 hb3 hb4 hb5)
 clear hb1 hb2 hb3 hb4 hb5
 go_wp2
 go_ret
 exact ⟨_, rfl, HE.out.1, HE.out.2.alloc HE.out.2.size _⟩
end Go.Proofs.YtjdgpgfiomnjkaaGreatDoor
namespace Go.Proofs.YtjdgpgfiomnjkaaGreatDoor
open Go.RowKit
set_option linter.unusedVariables false
set_option linter.unusedSimpArgs false
set_option linter.unusedSectionVars false
variable [Ghost]
end Go.Proofs.YtjdgpgfiomnjkaaGreatDoor
