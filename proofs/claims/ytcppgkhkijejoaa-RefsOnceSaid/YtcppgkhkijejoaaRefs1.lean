/- Walks: names: the program's Name and the reference's CheckName; where a name is. -/
import Derived.Test.YtcppgkhkijejoaaObj1
import Derived.Test.YtcppgkhkijejoaaRefsP
namespace Go.Proofs.Ytcppgkhkijejoaa
open Go.RowKit
set_option linter.unusedVariables false
set_option linter.unusedSimpArgs false

set_option maxHeartbeats 1000000 in
theorem sign_any (c : Int) (w : World) : Calls Try.prog 61 #[.int .u8 c] w fun e w' => e = .returned (.bool (signB c)) ∧ w = w' := by
  have hq : (c == 45) = decide (c = 45) := rfl
  unfold signB
  rw [hq]
  by_cases h1 : 97 ≤ c <;> by_cases h2 : c ≤ 122 <;> by_cases h3 : 48 ≤ c <;> by_cases h4 : c ≤ 57 <;> by_cases h5 : c = 45
  all_goals first
    | (exfalso; omega)
    | (have hq5 : (c == 45) = decide (c = 45) := rfl
       simp only [h5, decide_true, decide_false] at hq5
       go_enter Try.func61, Try.ntmps61
       go_wp2
       all_goals go_ret
       all_goals (refine ⟨?_, rfl⟩; simp [*]))

theorem index_str {P : Program} (t : TypeId) (h : P.underlying t = some .string) {s : ByteArray} (k : Nat) (hk : k < s.size) (w : World) :
    (Instr.index t (.string s) (.int .i64 (k : Int))).run P w = .ok (.int .u8 (byt s k)) w := by
  rw [run_index_string w t _ _ (k : Int) h, dif_pos (by omega), byt_get]; rfl

set_option maxHeartbeats 2000000 in
theorem name_any (s : ByteArray) (w : World) (hs : s.size ≤ 140737488351232) : Calls Try.prog 29 #[.string s] w fun e w' => e = .returned (.int .i64 (nameErr s)) ∧ w = w' := by
  by_cases h12 : 12 < s.size
  · have He := Lib.hid (nameErr_many h12)
    go_enter Try.func29, Try.ntmps29
    go_wp2
    go_ret
    exact ⟨ret_int He.out.symm, rfl⟩
  · have Hbad := Lib.hid (fun i => nameErr_bad (s := s) (i := i) (by omega))
    have Hsl := Lib.hid (nameErr_slash (s := s) (by omega))
    have Hok := Lib.hid (nameErr_ok (s := s) (by omega))
    go_enter Try.func29, Try.ntmps29
    go_wp2_with fail
    go_loop [3, 10] (fun a i => ∃ k : Nat, k ≤ s.size ∧ i = .int .i64 k ∧ a = .int .u8 (ahead s k) ∧ Hid (∀ j, j < k → badAt s j = false)) (fun _ i => s.size - (intOf i).toNat)
    case atStart => exact ⟨0, by omega, rfl, rfl, fun j hj => absurd hj (by omega)⟩
    case round =>
      obtain ⟨k, hk, rfl, rfl, Hs⟩ := hrel
      by_cases hlt : k < s.size
      · have hix := fun w => index_str (P := Try.prog) 9 Try.underlying9 (s := s) k hlt w
        have Hb := Lib.hid (show badAt s k = (!signB (byt s k) && (byt s k != 47 || ahead s k == 47)) from rfl)
        have Han := Lib.hid (ahead_next s k)
        cases q1 : signB (byt s k)
        · cases q2 : (byt s k != 47)
          · cases q3 : (ahead s k == 47)
            · have HB := Lib.hid (show badAt s k = false by rw [Hb.out, q1, q2, q3]; rfl)
              go_wp2_with (go_at_call 61; refine (sign_any _ _).mono ?_; rintro e w' ⟨rfl, rfl⟩)
              go_round
              case rel => exact ⟨k + 1, by omega, by go_num, by rw [Han.out], all_next Hs.out HB.out⟩
              case measure => simp [intOf]; omega
            · have HB := Lib.hid (Hbad.out k hlt (by rw [Hb.out, q1, q2, q3]; rfl))
              go_wp2_with (go_at_call 61; refine (sign_any _ _).mono ?_; rintro e w' ⟨rfl, rfl⟩)
              go_ret
              exact ⟨ret_int HB.out.symm, rfl⟩
          · have HB := Lib.hid (Hbad.out k hlt (by rw [Hb.out, q1, q2]; rfl))
            go_wp2_with (go_at_call 61; refine (sign_any _ _).mono ?_; rintro e w' ⟨rfl, rfl⟩)
            go_ret
            exact ⟨ret_int HB.out.symm, rfl⟩
        · have HB := Lib.hid (show badAt s k = false by rw [Hb.out, q1]; rfl)
          go_wp2_with (go_at_call 61; refine (sign_any _ _).mono ?_; rintro e w' ⟨rfl, rfl⟩)
          go_round
          case rel => exact ⟨k + 1, by omega, by go_num, by rw [Han.out], all_next Hs.out HB.out⟩
          case measure => simp [intOf]; omega
      · obtain rfl : k = s.size := by omega
        cases q3 : (ahead s s.size == 47)
        · have HB := Lib.hid (Hok.out Hs.out (by simpa using q3))
          go_wp2
          go_ret
          exact ⟨ret_int HB.out.symm, rfl⟩
        · have HB := Lib.hid (Hsl.out (by simpa using q3))
          go_wp2
          go_ret
          exact ⟨ret_int HB.out.symm, rfl⟩

set_option maxRecDepth 100000 in
set_option maxHeartbeats 4000000 in
theorem checkName_any (s : ByteArray) (w : World) (hs : s.size ≤ 140737488351232) : Calls Try.prog 26 #[.string s] w fun e w' => e = .returned (.int .i64 (nameErr s)) ∧ w = w' := by
  by_cases h12 : 12 < s.size
  · have He := Lib.hid (nameErr_many h12)
    go_enter Try.func26, Try.ntmps26
    go_wp2
    go_ret
    exact ⟨ret_int He.out.symm, rfl⟩
  · have Hbad := Lib.hid (fun i => nameErr_bad (s := s) (i := i) (by omega))
    have Hsl := Lib.hid (nameErr_slash (s := s) (by omega))
    have Hok := Lib.hid (nameErr_ok (s := s) (by omega))
    by_cases h0 : s.size = 0
    · have hnil : s = ⟨#[]⟩ := ByteArray.size_eq_zero_iff.1 h0
      subst hnil
      have HB := Lib.hid (Hsl.out rfl)
      go_enter Try.func26, Try.ntmps26
      go_wp2
      go_ret
      exact ⟨ret_int HB.out.symm, rfl⟩
    · have hne : s.toList ≠ [] := by
        rw [ByteArray.toList_eq]; intro e; apply h0; have := congrArg List.length e; simpa using this
      have hne1 : s.toList.isEmpty = false := by cases h : s.toList <;> simp_all
      have hix0 := fun w => index_str (P := Try.prog) 9 Try.underlying9 (s := s) 0 (by omega) w
      have hixl := fun w => index_str (P := Try.prog) 9 Try.underlying9 (s := s) (s.size - 1) (by omega) w
      rw [show ((s.size - 1 : Nat) : Int) = (s.size : Int) - 1 by omega] at hixl
      rw [show ((0 : Nat) : Int) = 0 from rfl] at hix0
      cases q0 : (byt s 0 == 47)
      · cases ql : (byt s (s.size - 1) == 47)
        · have Hq0 := Lib.hid (show byt s 0 ≠ 47 by simpa using q0)
          have Hql := Lib.hid (show ahead s s.size ≠ 47 by unfold ahead; rw [if_neg h0]; simpa using ql)
          go_enter Try.func26, Try.ntmps26
          go_wp2_with fail
          clear hix0 hixl q0 ql hne hne1
          go_loop [3] (fun i => ∃ k : Nat, k ≤ s.size ∧ i = .int .i64 k ∧ Hid (∀ j, j < k → badAt s j = false)) (fun i => s.size - (intOf i).toNat)
          case atStart => exact ⟨0, by omega, rfl, fun j hj => absurd hj (by omega)⟩
          case round =>
            obtain ⟨k, hk, rfl, Hs⟩ := hrel
            by_cases hlt : k < s.size
            · have hix := fun w => index_str (P := Try.prog) 9 Try.underlying9 (s := s) k hlt w
              have Hsm := Lib.hid (badAt_same (s := s) (i := k) (fun _ => Hq0.out))
              have Hb := Lib.hid (show badAt' s k = ((!within (byt s k) 97 122 && !within (byt s k) 48 57 && byt s k != 45 && byt s k != 47) || (byt s k == 47 && byt s (k - 1) == 47)) from rfl)
              have hr := byt_range s k
              have hwi := wrap_in (n := byt s k) (by omega)
              have HF := Lib.hid (fun (h : badAt' s k = false) => show badAt s k = false by rw [← Hsm.out]; exact h)
              have HT := Lib.hid (fun (h : badAt' s k = true) => Hbad.out k hlt (by rw [← Hsm.out]; exact h))
              cases q4 : (byt s k == 47)
              · have q4' : (byt s k != 47) = true := by show (!(byt s k == 47)) = true; rw [q4]; rfl
                cases q1 : within (byt s k) 97 122 <;> cases q2 : within (byt s k) 48 57 <;> cases q3 : (byt s k == 45)
                all_goals
                  have q3' : (byt s k != 45) = !(byt s k == 45) := rfl
                  rw [q3] at q3'
                  simp only [Bool.not_true, Bool.not_false] at q3'
                  first
                    | (have HB := Lib.hid (HF.out (by rw [Hb.out, q1, q2, q3', q4, q4']; rfl))
                       go_wp2_with (go_at_call 57; refine (between_any _ _ _ _).mono ?_; rintro e w' ⟨rfl, rfl⟩)
                       go_round
                       case rel => exact ⟨k + 1, by omega, by go_num, all_next Hs.out HB.out⟩
                       case measure => simp [intOf]; omega)
                    | (have HB := Lib.hid (HT.out (by rw [Hb.out, q1, q2, q3', q4, q4']; rfl))
                       go_wp2_with (go_at_call 57; refine (between_any _ _ _ _).mono ?_; rintro e w' ⟨rfl, rfl⟩)
                       go_ret
                       exact ⟨ret_int HB.out.symm, rfl⟩)
              · have q4' : (byt s k != 47) = false := by show (!(byt s k == 47)) = false; rw [q4]; rfl
                have hk0 : 0 < k := by
                  rcases Nat.eq_zero_or_pos k with e | e
                  · subst e; exact absurd (by simpa using q4) Hq0.out
                  · exact e
                have hixp := fun w => index_str (P := Try.prog) 9 Try.underlying9 (s := s) (k - 1) (by omega) w
                rw [show ((k - 1 : Nat) : Int) = (k : Int) - 1 by omega] at hixp
                cases q1 : within (byt s k) 97 122 <;> cases q2 : within (byt s k) 48 57 <;> cases q3 : (byt s k == 45) <;> cases q5 : (byt s (k - 1) == 47)
                all_goals
                  have q3' : (byt s k != 45) = !(byt s k == 45) := rfl
                  rw [q3] at q3'
                  simp only [Bool.not_true, Bool.not_false] at q3'
                  first
                    | (have HB := Lib.hid (HF.out (by rw [Hb.out, q1, q2, q3', q4, q4', q5]; rfl))
                       go_wp2_with (go_at_call 57; refine (between_any _ _ _ _).mono ?_; rintro e w' ⟨rfl, rfl⟩)
                       go_round
                       case rel => exact ⟨k + 1, by omega, by go_num, all_next Hs.out HB.out⟩
                       case measure => simp [intOf]; omega)
                    | (have HB := Lib.hid (HT.out (by rw [Hb.out, q1, q2, q3', q4, q4', q5]; rfl))
                       go_wp2_with (go_at_call 57; refine (between_any _ _ _ _).mono ?_; rintro e w' ⟨rfl, rfl⟩)
                       go_ret
                       exact ⟨ret_int HB.out.symm, rfl⟩)
            · obtain rfl : k = s.size := by omega
              have HB := Lib.hid (Hok.out Hs.out Hql.out)
              go_wp2
              go_ret
              exact ⟨ret_int HB.out.symm, rfl⟩
        · have HB := Lib.hid (Hsl.out (show ahead s s.size = 47 by unfold ahead; rw [if_neg h0]; simpa using ql))
          go_enter Try.func26, Try.ntmps26
          go_wp2
          go_ret
          exact ⟨ret_int HB.out.symm, rfl⟩
      · have HB := Lib.hid (Hbad.out 0 (by omega) (bad_slash0 (by simpa using q0)))
        go_enter Try.func26, Try.ntmps26
        go_wp2
        go_ret
        exact ⟨ret_int HB.out.symm, rfl⟩
end Go.Proofs.Ytcppgkhkijejoaa
