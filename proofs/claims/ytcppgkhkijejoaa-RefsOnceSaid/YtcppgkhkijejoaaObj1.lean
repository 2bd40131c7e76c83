/- Walks: package object, what is wrong with an object. -/
import Derived.Test.YtcppgkhkijejoaaRows
import Derived.Test.YtcppgkhkijejoaaPure
namespace Go.Proofs.Ytcppgkhkijejoaa
open Go.RowKit
set_option linter.unusedVariables false
set_option linter.unusedSimpArgs false

set_option maxHeartbeats 400000 in
theorem within_any (n lo hi : Int) (w : World) :
    Calls Try.prog 53 #[.int .i64 n, .int .i64 lo, .int .i64 hi] w fun e w' => e = .returned (.bool (within n lo hi)) ∧ w = w' := by
  go_enter Try.func53, Try.ntmps53
  go_wp2
  all_goals go_ret
  all_goals (refine ⟨?_, rfl⟩; simp [within, *])
  omega

set_option maxHeartbeats 400000 in
theorem between_any (n lo hi : Int) (w : World) :
    Calls Try.prog 57 #[.int .i64 n, .int .i64 lo, .int .i64 hi] w fun e w' => e = .returned (.bool (within n lo hi)) ∧ w = w' := by
  go_enter Try.func57, Try.ntmps57
  go_wp2
  all_goals go_ret
  all_goals (refine ⟨?_, rfl⟩; simp [within, *])
  omega

theorem ret_int {k : IntKind} {a b : Int} (h : a = b) : Ending.returned (.int k a) = .returned (.int k b) := by rw [h]
theorem ite_kind {n : Int} {b : Bool} (h : (n == 3) = b) : (if n = 3 then 2 else 1) = (if b then 2 else 1) := by
  have : (n == 3) = decide (n = 3) := rfl
  rw [← h, this]; by_cases hn : n = 3 <;> simp [hn]
theorem formBad_eq (o : Obj) : formBad o = ((o.kind == 1 && decide (0 < o.links.length)) || (o.kind == 3 && decide (o.links.length < 1))) := by
  have h1 : (o.kind == 1) = decide (o.kind = 1) := rfl
  have h3 : (o.kind == 3) = decide (o.kind = 3) := rfl
  have h4 : decide (o.links.length < 1) = decide (o.links.length = 0) := by rw [decide_eq_decide]; omega
  rw [h1, h3, h4]; rfl

set_option maxHeartbeats 1000000 in
theorem links_any (o : Obj) (lv : Value) (S : Nat → Prop) (w : World) (ho : ObjIs S w o lv) (hi : within o.id 1 99 = true) :
    Calls Try.prog 54 #[.agg #[.int .i64 o.id, .int .i64 o.kind, lv, .string o.text]] w fun e w' => e = .returned (.int .i64 (linksErr o)) ∧ Below w.heap.size w w' := by
  obtain ⟨a, n, cap, HN, rfl, hc1, hc2, hc8, hc⟩ := ho.1.open
  have hid := within_true hi
  have hb0 : Below w.heap.size w w := Below.refl _ _
  have hb1 := below_alloc w
  have Hfb := Lib.hid (formBad_eq o)
  clear hi
  cases hk3 : (o.kind == 3)
  · have Hk3 := Lib.hid hk3
    go_enter Try.func54, Try.ntmps54
    go_wp2
    go_loopw [12] (fun i wr => ∃ k : Nat, k ≤ n ∧ i = .int .i64 k ∧ scan (linkBad o) k = 0 ∧ wr = w.alloc (.cells #[.int .i64 o.id, .int .i64 o.kind, .slice a n cap, .string o.text] 24)) (fun i _ => n - (intOf i).toNat)
    case atStart => exact ⟨0, by omega, rfl, rfl, rfl⟩
    case round =>
      obtain ⟨k, hk, rfl, hs, rfl⟩ := hrel
      have Hsc := Lib.hid hs; clear hs
      by_cases hlt : k < n
      · obtain ⟨b, off, rfl, hb, hcell⟩ := hc (by omega)
        clear hc
        cases hw : within (nth o.links k) 1 (o.id - 1)
        · go_wp2_with (go_at_call 53; refine (within_any _ _ _ _).mono ?_; rintro e w' ⟨rfl, rfl⟩)
          go_ret
          exact ⟨ret_int (linksErr_bad Hsc.out (linkBad_range hw) (by omega) (by have := HN.out; omega)).symm, hb1 _ _ hb0⟩
        · have Hst := Lib.hid (linkBad_state hw)
          have Hokk := Lib.hid (linkBad_ok hw)
          have hsp : (if o.kind = 3 then 2 else 1) = 1 := ite_kind Hk3.out
          have hkm : 1 ≤ k → ∀ x, Below w.heap.size w x → x.cell? ⟨b, off + (k - 1), none⟩ = some (.int .i64 (nth o.links (k - 1))) := fun _ x hx => hcell (k - 1) x (by omega) hx
          rw [hsp] at Hst Hokk
          clear hsp
          by_cases hf : 1 ≤ k
          · have hkm' := hkm (by omega)
            clear hkm
            by_cases hle : nth o.links k ≤ nth o.links (k - 1)
            · go_wp2_with (go_at_call 53; refine (within_any _ _ _ _).mono ?_; rintro e w' ⟨rfl, rfl⟩)
              go_ret
              exact ⟨ret_int (linksErr_bad Hsc.out (Hst.out hf hle) (by omega) (by have := HN.out; omega)).symm, hb1 _ _ hb0⟩
            · go_wp2_with (go_at_call 53; refine (within_any _ _ _ _).mono ?_; rintro e w' ⟨rfl, rfl⟩)
              go_roundw
              case rel => exact ⟨k + 1, by omega, by go_num, scan_next Hsc.out (Hokk.out (by omega)), trivial⟩
              case measure => simp [intOf]; omega
          · clear hkm
            go_wp2_with (go_at_call 53; refine (within_any _ _ _ _).mono ?_; rintro e w' ⟨rfl, rfl⟩)
            go_roundw
            case rel => exact ⟨k + 1, by omega, by go_num, scan_next Hsc.out (Hokk.out (by omega)), trivial⟩
            case measure => simp [intOf]; omega
      · obtain rfl : k = n := by omega
        have hz : scan (linkBad o) o.links.length = 0 := by rw [← HN.out]; exact Hsc.out
        have hnn : (k < 1 ∧ Hid (decide (0 < o.links.length) = false ∧ decide (o.links.length < 1) = true)) ∨ (0 < k ∧ Hid (decide (0 < o.links.length) = true ∧ decide (o.links.length < 1) = false)) := by
          rw [← HN.out]; unfold Hid; simp only [decide_eq_true_eq, decide_eq_false_iff_not]; omega
        have Hok := Lib.hid (linksErr_ok hz)
        have Hbad := Lib.hid (linksErr_form hz); clear hz
        cases hk1 : (o.kind == 1) <;> rcases hnn with ⟨hnn, Hd⟩ | ⟨hnn, Hd⟩
        all_goals
          go_wp2
          go_ret
          refine ⟨?_, hb1 _ _ hb0⟩
          first
            | exact ret_int (Hok.out (by rw [Hfb.out, Hk3.out, hk1, Hd.out.1, Hd.out.2]; rfl)).symm
            | exact ret_int (Hbad.out (by rw [Hfb.out, Hk3.out, hk1, Hd.out.1, Hd.out.2]; rfl)).symm
  · have Hk3 := Lib.hid hk3
    go_enter Try.func54, Try.ntmps54
    go_wp2
    go_loopw [12] (fun i wr => ∃ k : Nat, k ≤ n ∧ i = .int .i64 k ∧ scan (linkBad o) k = 0 ∧ wr = w.alloc (.cells #[.int .i64 o.id, .int .i64 o.kind, .slice a n cap, .string o.text] 24)) (fun i _ => n - (intOf i).toNat)
    case atStart => exact ⟨0, by omega, rfl, rfl, rfl⟩
    case round =>
      obtain ⟨k, hk, rfl, hs, rfl⟩ := hrel
      have Hsc := Lib.hid hs; clear hs
      by_cases hlt : k < n
      · obtain ⟨b, off, rfl, hb, hcell⟩ := hc (by omega)
        clear hc
        cases hw : within (nth o.links k) 1 (o.id - 1)
        · go_wp2_with (go_at_call 53; refine (within_any _ _ _ _).mono ?_; rintro e w' ⟨rfl, rfl⟩)
          go_ret
          exact ⟨ret_int (linksErr_bad Hsc.out (linkBad_range hw) (by omega) (by have := HN.out; omega)).symm, hb1 _ _ hb0⟩
        · have Hst := Lib.hid (linkBad_state hw)
          have Hokk := Lib.hid (linkBad_ok hw)
          have hsp : (if o.kind = 3 then 2 else 1) = 2 := ite_kind Hk3.out
          have hkm : 1 ≤ k → ∀ x, Below w.heap.size w x → x.cell? ⟨b, off + (k - 1), none⟩ = some (.int .i64 (nth o.links (k - 1))) := fun _ x hx => hcell (k - 1) x (by omega) hx
          rw [hsp] at Hst Hokk
          clear hsp
          by_cases hf : 2 ≤ k
          · have hkm' := hkm (by omega)
            clear hkm
            by_cases hle : nth o.links k ≤ nth o.links (k - 1)
            · go_wp2_with (go_at_call 53; refine (within_any _ _ _ _).mono ?_; rintro e w' ⟨rfl, rfl⟩)
              go_ret
              exact ⟨ret_int (linksErr_bad Hsc.out (Hst.out hf hle) (by omega) (by have := HN.out; omega)).symm, hb1 _ _ hb0⟩
            · go_wp2_with (go_at_call 53; refine (within_any _ _ _ _).mono ?_; rintro e w' ⟨rfl, rfl⟩)
              go_roundw
              case rel => exact ⟨k + 1, by omega, by go_num, scan_next Hsc.out (Hokk.out (by omega)), trivial⟩
              case measure => simp [intOf]; omega
          · clear hkm
            go_wp2_with (go_at_call 53; refine (within_any _ _ _ _).mono ?_; rintro e w' ⟨rfl, rfl⟩)
            go_roundw
            case rel => exact ⟨k + 1, by omega, by go_num, scan_next Hsc.out (Hokk.out (by omega)), trivial⟩
            case measure => simp [intOf]; omega
      · obtain rfl : k = n := by omega
        have hz : scan (linkBad o) o.links.length = 0 := by rw [← HN.out]; exact Hsc.out
        have hnn : (k < 1 ∧ Hid (decide (0 < o.links.length) = false ∧ decide (o.links.length < 1) = true)) ∨ (0 < k ∧ Hid (decide (0 < o.links.length) = true ∧ decide (o.links.length < 1) = false)) := by
          rw [← HN.out]; unfold Hid; simp only [decide_eq_true_eq, decide_eq_false_iff_not]; omega
        have Hok := Lib.hid (linksErr_ok hz)
        have Hbad := Lib.hid (linksErr_form hz); clear hz
        cases hk1 : (o.kind == 1) <;> rcases hnn with ⟨hnn, Hd⟩ | ⟨hnn, Hd⟩
        all_goals
          go_wp2
          go_ret
          refine ⟨?_, hb1 _ _ hb0⟩
          first
            | exact ret_int (Hok.out (by rw [Hfb.out, Hk3.out, hk1, Hd.out.1, Hd.out.2]; rfl)).symm
            | exact ret_int (Hbad.out (by rw [Hfb.out, Hk3.out, hk1, Hd.out.1, Hd.out.2]; rfl)).symm
end Go.Proofs.Ytcppgkhkijejoaa
