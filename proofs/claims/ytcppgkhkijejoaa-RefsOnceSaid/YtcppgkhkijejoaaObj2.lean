/- Walks: what is wrong with an object: the program's Check and the reference's. -/
import Derived.Test.YtcppgkhkijejoaaObj1
namespace Go.Proofs.Ytcppgkhkijejoaa
open Go.RowKit
set_option linter.unusedVariables false
set_option linter.unusedSimpArgs false

set_option maxHeartbeats 1000000 in
theorem check_any (o : Obj) (lv : Value) (S : Nat → Prop) (w : World) (ho : ObjIs S w o lv) :
    Calls Try.prog 18 #[.agg #[.int .i64 o.id, .int .i64 o.kind, lv, .string o.text]] w fun e w' => e = .returned (.int .i64 (checkObj o)) ∧ Below w.heap.size w w' := by
  have ho' := ho
  obtain ⟨a, n, cap, HN, rfl, hc1, hc2, hc8, hc⟩ := ho.1.open
  have htx : o.text.size ≤ 140737488351232 := ho.2.2.2
  have hb0 : Below w.heap.size w w := Below.refl _ _
  have hb1 := below_alloc w
  have Hc := Lib.hid (show checkObj o = if within o.id 1 99 = false then 3 else if within o.kind 1 3 = false then 7 else if 4 < n ∨ 8 < o.text.size then 2 else linksErr o by rw [HN.out]; rfl)
  clear hc
  cases hw1 : within o.id 1 99
  · go_enter Try.func18, Try.ntmps18
    go_wp2_with (go_at_call 53; refine (within_any _ _ _ _).mono ?_; rintro e w' ⟨rfl, rfl⟩)
    go_ret
    exact ⟨ret_int (by rw [Hc.out]; simp [hw1]), hb1 _ _ hb0⟩
  · cases hw2 : within o.kind 1 3
    · go_enter Try.func18, Try.ntmps18
      go_wp2_with (go_at_call 53; refine (within_any _ _ _ _).mono ?_; rintro e w' ⟨rfl, rfl⟩)
      go_ret
      exact ⟨ret_int (by rw [Hc.out]; simp [hw1, hw2]), hb1 _ _ hb0⟩
    · by_cases h4 : 4 < n
      · go_enter Try.func18, Try.ntmps18
        go_wp2_with (go_at_call 53; refine (within_any _ _ _ _).mono ?_; rintro e w' ⟨rfl, rfl⟩)
        go_ret
        exact ⟨ret_int (by rw [Hc.out]; simp [hw1, hw2, h4]), hb1 _ _ hb0⟩
      · by_cases h8 : 8 < o.text.size
        · go_enter Try.func18, Try.ntmps18
          go_wp2_with (go_at_call 53; refine (within_any _ _ _ _).mono ?_; rintro e w' ⟨rfl, rfl⟩)
          go_ret
          exact ⟨ret_int (by rw [Hc.out]; simp [hw1, hw2, h8]), hb1 _ _ hb0⟩
        · go_enter Try.func18, Try.ntmps18
          go_wp2_with (first
            | (go_at_call 53; refine (within_any _ _ _ _).mono ?_; rintro e w' ⟨rfl, rfl⟩)
            | (go_at_call 54; refine (links_any o _ _ _ (ho'.below (hb1 _ _ hb0)) hw1).mono ?_; rintro e w' ⟨rfl, hb2⟩))
          go_ret
          exact ⟨ret_int (by rw [Hc.out]; simp [hw1, hw2, h4, h8]), below_next (hb1 _ _ hb0) hb2⟩

set_option maxHeartbeats 2000000 in
theorem checkObject_any (o : Obj) (lv : Value) (S : Nat → Prop) (w : World) (ho : ObjIs S w o lv) :
    Calls Try.prog 21 #[.agg #[.int .i64 o.id, .int .i64 o.kind, lv, .string o.text]] w fun e w' => e = .returned (.int .i64 (checkObj o)) ∧ Below w.heap.size w w' := by
  obtain ⟨a, n, cap, HN, rfl, hc1, hc2, hc8, hc⟩ := ho.1.open
  have htx : o.text.size ≤ 140737488351232 := ho.2.2.2
  have hb0 : Below w.heap.size w w := Below.refl _ _
  have hb1 := below_alloc w
  have hb2 := below_drewN w
  have hb3 := below_drew w
  have Hc := Lib.hid (show checkObj o = if within o.id 1 99 = false then 3 else if within o.kind 1 3 = false then 7 else if 4 < n ∨ 8 < o.text.size then 2 else linksErr o by rw [HN.out]; rfl)
  have Hfb := Lib.hid (formBad_eq o)
  cases hw1 : within o.id 1 99
  · go_enter Try.func21, Try.ntmps21
    go_wp2_with (go_at_call 57; refine (between_any _ _ _ _).mono ?_; rintro e w' ⟨rfl, rfl⟩)
    go_ret
    exact ⟨ret_int (by rw [Hc.out]; simp [hw1]), hb1 _ _ hb0⟩
  · have hid := within_true hw1
    cases hw2 : within o.kind 1 3
    · go_enter Try.func21, Try.ntmps21
      go_wp2_with (go_at_call 57; refine (between_any _ _ _ _).mono ?_; rintro e w' ⟨rfl, rfl⟩)
      go_ret
      exact ⟨ret_int (by rw [Hc.out]; simp [hw1, hw2]), hb1 _ _ hb0⟩
    · by_cases h4 : 4 < n
      · go_enter Try.func21, Try.ntmps21
        go_wp2_with (go_at_call 57; refine (between_any _ _ _ _).mono ?_; rintro e w' ⟨rfl, rfl⟩)
        go_ret
        exact ⟨ret_int (by rw [Hc.out]; simp [hw1, hw2, h4]), hb1 _ _ hb0⟩
      · by_cases h8 : 8 < o.text.size
        · go_enter Try.func21, Try.ntmps21
          go_wp2_with (go_at_call 57; refine (between_any _ _ _ _).mono ?_; rintro e w' ⟨rfl, rfl⟩)
          go_ret
          exact ⟨ret_int (by rw [Hc.out]; simp [hw1, hw2, h8]), hb1 _ _ hb0⟩
        · have He := Lib.hid (show checkObj o = linksErr o by rw [Hc.out]; simp [hw1, hw2, h4, h8])
          clear Hc
          go_enter Try.func21, Try.ntmps21
          go_wp2_with (go_at_call 57; refine (between_any _ _ _ _).mono ?_; rintro e w' ⟨rfl, rfl⟩)
          clear hw1 hw2
          obtain ⟨R, hR, hR1, hx0, hx1, hx2, hx3⟩ := cls_box4 w (.int .i64 o.id) (.int .i64 o.kind) (.slice a n cap) (.string o.text) 24
          have hRb := hR.below
          have hRn := hR.drewN
          have hRd := hR.drew
          clear hb1 hb2 hb3 hb0
          go_loopw [3] (fun i wr => ∃ k : Nat, k ≤ n ∧ i = .int .i64 k ∧ scan (linkBad o) k = 0 ∧ In R wr) (fun i _ => n - (intOf i).toNat)
          case atStart => exact ⟨0, by omega, rfl, rfl, hR1⟩
          case round =>
            obtain ⟨k, hk, rfl, hs, hRw⟩ := hrel
            clear hR1
            have Hsc := Lib.hid hs; clear hs
            by_cases hlt : k < n
            · obtain ⟨b, off, rfl, hb, hcell⟩ := hc (by omega)
              clear hc
              have hck : ∀ x, In R x → x.cell? ⟨b, off + k, none⟩ = some (.int .i64 (nth o.links k)) := fun x hx => hcell k x hlt (hRb x hx)
              have hkm : 1 ≤ k → ∀ x, In R x → x.cell? ⟨b, off + (k - 1), none⟩ = some (.int .i64 (nth o.links (k - 1))) := fun _ x hx => hcell (k - 1) x (by omega) (hRb x hx)
              clear hcell
              have hi1 : (0 : Int) ≤ (k : Int) := by omega
              have hi2 : (k : Int) < (n : Int) := by omega
              have hwr := wrap_in (n := o.id - 1) (by omega)
              cases hw : within (nth o.links k) 1 (o.id - 1)
              · go_wp2_with fail
                go_quiet ((go_at_call 57; exact quiet_same (between_any _ _ _ _)))
                go_wp2
                go_ret
                exact ⟨ret_int (by rw [He.out]; exact (linksErr_bad Hsc.out (linkBad_range hw) (by omega) (by have := HN.out; omega)).symm), hRb _ (hRn _ _ hRw)⟩
              · have Hst := Lib.hid (linkBad_state hw)
                have Hokk := Lib.hid (linkBad_ok hw)
                go_wp2_with fail
                go_quiet ((go_at_call 57; exact quiet_same (between_any _ _ _ _)))
                clear hwr
                have hRw' := hRn _ nq hRw
                generalize wr.drewN nq = wr' at *
                clear hRw
                by_cases hk0 : 0 < k
                · have hkm' := hkm hk0
                  clear hkm
                  have hi3 : (0 : Int) ≤ (k : Int) - 1 := by omega
                  have hi4 : (1 : Int) ≤ (k : Int) := by omega
                  have hi5 : (k : Int) - 1 < (n : Int) := by omega
                  have hi6 : (0 : Int) < (k : Int) := by omega
                  have hwr2 := wrap_in (n := (k : Int) - 1) (by omega)
                  have htn : ((k : Int) - 1).toNat = k - 1 := by omega
                  cases hk3 : (o.kind == 3)
                  · rw [show (if o.kind = 3 then 2 else 1) = 1 from ite_kind hk3] at Hst Hokk
                    by_cases hle : nth o.links k ≤ nth o.links (k - 1)
                    · have hf : 1 ≤ k := hk0
                      go_wp2_with fail
                      go_quiet (fail)
                      go_wp2
                      go_ret
                      exact ⟨ret_int (by rw [He.out]; exact (linksErr_bad Hsc.out (Hst.out hf hle) (by omega) (by have := HN.out; omega)).symm), hRb _ (hRn _ _ hRw')⟩
                    · go_wp2_with fail
                      go_quiet (fail)
                      go_wp2
                      go_roundw
                      case rel => exact ⟨k + 1, by omega, by go_num, scan_next Hsc.out (Hokk.out (by omega)), hRn _ _ hRw'⟩
                      case measure => simp [intOf]; omega
                  · rw [show (if o.kind = 3 then 2 else 1) = 2 from ite_kind hk3] at Hst Hokk
                    by_cases hk1 : 2 ≤ k
                    · have hq : ((k : Int) == 1) = false := by simp; omega
                      by_cases hle : nth o.links k ≤ nth o.links (k - 1)
                      · have hf := hk1
                        go_wp2_with fail
                        go_quiet (fail)
                        go_wp2
                        go_ret
                        exact ⟨ret_int (by rw [He.out]; exact (linksErr_bad Hsc.out (Hst.out hf hle) (by omega) (by have := HN.out; omega)).symm), hRb _ (hRn _ _ hRw')⟩
                      · go_wp2_with fail
                        go_quiet (fail)
                        go_wp2
                        go_roundw
                        case rel => exact ⟨k + 1, by omega, by go_num, scan_next Hsc.out (Hokk.out (by omega)), hRn _ _ hRw'⟩
                        case measure => simp [intOf]; omega
                    · have hq : ((k : Int) == 1) = true := by simp; omega
                      go_wp2_with fail
                      go_quiet (fail)
                      go_wp2
                      go_roundw
                      case rel => exact ⟨k + 1, by omega, by go_num, scan_next Hsc.out (Hokk.out (by omega)), hRn _ _ hRw'⟩
                      case measure => simp [intOf]; omega
                · clear hkm
                  have hd : decide ((0 : Int) < (k : Int)) = false := by simp; omega
                  have Hf := Lib.hid (show ¬ (if o.kind = 3 then 2 else 1) ≤ k by split <;> omega)
                  go_wp2_with fail
                  go_quiet (fail)
                  go_wp2
                  go_roundw
                  case rel => exact ⟨k + 1, by omega, by go_num, scan_next Hsc.out (Hokk.out (fun h => Hf.out h.1)), hRn _ _ hRw'⟩
                  case measure => simp [intOf]; omega
            · obtain rfl : k = n := by omega
              have hz : scan (linkBad o) o.links.length = 0 := by rw [← HN.out]; exact Hsc.out
              have hnn : (k < 1 ∧ Hid (decide (0 < o.links.length) = false ∧ decide (o.links.length < 1) = true)) ∨ (0 < k ∧ Hid (decide (0 < o.links.length) = true ∧ decide (o.links.length < 1) = false)) := by
                rw [← HN.out]; unfold Hid; simp only [decide_eq_true_eq, decide_eq_false_iff_not]; omega
              have Hok := Lib.hid (linksErr_ok hz)
              have Hbad := Lib.hid (linksErr_form hz); clear hz
              cases hk3 : (o.kind == 3) <;> cases hk1 : (o.kind == 1) <;> rcases hnn with ⟨hnn, Hd⟩ | ⟨hnn, Hd⟩
              all_goals
                go_wp2
                go_ret
                refine ⟨?_, hRb _ hRw⟩
                first
                  | exact ret_int (by rw [He.out, Hok.out (by rw [Hfb.out, hk3, hk1, Hd.out.1, Hd.out.2]; rfl)])
                  | exact ret_int (by rw [He.out, Hbad.out (by rw [Hfb.out, hk3, hk1, Hd.out.1, Hd.out.2]; rfl)])
end Go.Proofs.Ytcppgkhkijejoaa
