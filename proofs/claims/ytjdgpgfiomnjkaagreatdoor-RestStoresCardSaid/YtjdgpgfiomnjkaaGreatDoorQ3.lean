
/- RefsA: Refs1, Refs2, Refs3, Refs4, Refs5, Refs6. -/
import Derived.Test.YtjdgpgfiomnjkaaGreatDoorQ1
import Derived.Test.YtjdgpgfiomnjkaaGreatDoorQ0
import Derived.Test.YtjdgpgfiomnjkaaGreatDoorQ2
import Derived.Deep.DeepCutAuto
namespace Go.Proofs.YtjdgpgfiomnjkaaGreatDoor
open Go.RowKit
set_option linter.unusedVariables false
set_option linter.unusedSimpArgs false
set_option linter.unusedSectionVars false
variable [Ghost]
set_option maxHeartbeats 1000000 in
theorem sign_any (c : Int) (w : World) : Calls Tryz.prog 223 #[.int .u8 c] w fun e w' => e = .returned (.bool (signB c)) ∧ w = w' := by
  have hq : (c == 45) = decide (c = 45) := rfl
  unfold signB
  rw [hq]
  by_cases h1 : 97 ≤ c <;> by_cases h2 : c ≤ 122 <;> by_cases h3 : 48 ≤ c <;> by_cases h4 : c ≤ 57 <;> by_cases h5 : c = 45
  all_goals first
    | (exfalso; omega)
    | (have hq5 : (c == 45) = decide (c = 45) := rfl
       simp only [h5, decide_true, decide_false] at hq5
       go_enter Tryz.func223, Tryz.ntmps223
       go_wp2
       all_goals go_ret
       all_goals (refine ⟨?_, rfl⟩; simp [*]))
theorem index_str {P : Program} (t : TypeId) (h : P.underlying t = some .string) {s : ByteArray} (k : Nat) (hk : k < s.size) (w : World) :
  (Instr.index t (.string s) (.int .i64 (k : Int))).run P w = .ok (.int .u8 (byt s k)) w := by
 rw [run_index_string w t _ _ (k : Int) h, dif_pos (by omega), byt_get]; rfl
set_option maxHeartbeats 2000000 in
theorem name_any (s : ByteArray) (w : World) (hs : s.size ≤ 140737488351232) : Calls Tryz.prog 171 #[.string s] w fun e w' => e = .returned (.int .i64 (nameErr s)) ∧ w = w' := by
 by_cases h12 : 12 < s.size
 ·have He := Lib.hid (nameErr_many h12)
  go_enter Tryz.func171, Tryz.ntmps171
  go_wp2
  go_ret
  exact ⟨ret_int He.out.symm, rfl⟩
 ·have Hbad := Lib.hid (fun i => nameErr_bad (s := s) (i := i) (by omega))
  have Hsl := Lib.hid (nameErr_slash (s := s) (by omega))
  have Hok := Lib.hid (nameErr_ok (s := s) (by omega))
  go_enter Tryz.func171, Tryz.ntmps171
  go_wp2_with fail
  go_loop [3, 10] (fun a i => ∃ k : Nat, k ≤ s.size ∧ i = .int .i64 k ∧ a = .int .u8 (ahead s k) ∧ Hid (∀ j, j < k → badAt s j = false)) (fun _ i => s.size - (intOf i).toNat)
  case atStart => exact ⟨0, by omega, rfl, rfl, fun j hj => absurd hj (by omega)⟩
  case round =>
   obtain ⟨k, hk, rfl, rfl, Hs⟩ := hrel
   by_cases hlt : k < s.size
   ·have hix := fun w => index_str (P := Tryz.prog) 9 Tryz.underlying9 (s := s) k hlt w
    have Hb := Lib.hid (show badAt s k = (!signB (byt s k) && (byt s k != 47 || ahead s k == 47)) from rfl)
    have Han := Lib.hid (ahead_next s k)
    cases q1 : signB (byt s k)
    ·cases q2 : (byt s k != 47)
     ·cases q3 : (ahead s k == 47)
      ·have HB := Lib.hid (show badAt s k = false by rw [Hb.out, q1, q2, q3]; rfl)
       go_wp2_with (go_at_call 223; refine (sign_any _ _).mono ?_; rintro e w' ⟨rfl, rfl⟩)
       go_round
       case rel => exact ⟨k + 1, by omega, by go_num, by rw [Han.out], all_next Hs.out HB.out⟩
       case measure => simp [intOf]; omega
      ·have HB := Lib.hid (Hbad.out k hlt (by rw [Hb.out, q1, q2, q3]; rfl))
       go_wp2_with (go_at_call 223; refine (sign_any _ _).mono ?_; rintro e w' ⟨rfl, rfl⟩)
       go_ret
       exact ⟨ret_int HB.out.symm, rfl⟩
     ·have HB := Lib.hid (Hbad.out k hlt (by rw [Hb.out, q1, q2]; rfl))
      go_wp2_with (go_at_call 223; refine (sign_any _ _).mono ?_; rintro e w' ⟨rfl, rfl⟩)
      go_ret
      exact ⟨ret_int HB.out.symm, rfl⟩
    ·have HB := Lib.hid (show badAt s k = false by rw [Hb.out, q1]; rfl)
     go_wp2_with (go_at_call 223; refine (sign_any _ _).mono ?_; rintro e w' ⟨rfl, rfl⟩)
     go_round
     case rel => exact ⟨k + 1, by omega, by go_num, by rw [Han.out], all_next Hs.out HB.out⟩
     case measure => simp [intOf]; omega
   ·obtain rfl : k = s.size := by omega
    cases q3 : (ahead s s.size == 47)
    ·have HB := Lib.hid (Hok.out Hs.out (by simpa using q3))
     go_wp2
     go_ret
     exact ⟨ret_int HB.out.symm, rfl⟩
    ·have HB := Lib.hid (Hsl.out (by simpa using q3))
     go_wp2
     go_ret
     exact ⟨ret_int HB.out.symm, rfl⟩
set_option maxRecDepth 100000 in
set_option maxHeartbeats 4000000 in
theorem checkName_any (s : ByteArray) (w : World) (hs : s.size ≤ 140737488351232) : Calls Tryz.prog 133 #[.string s] w fun e w' => e = .returned (.int .i64 (nameErr s)) ∧ w = w' := by
  by_cases h12 : 12 < s.size
  · have He := Lib.hid (nameErr_many h12)
    go_enter Tryz.func133, Tryz.ntmps133
    go_wp2
    go_ret
    exact ⟨ret_int He.out.symm, rfl⟩
  · have Hbad := Lib.hid (fun i => nameErr_bad (s := s) (i := i) (by omega))
    have Hsl := Lib.hid (nameErr_slash (s := s) (by omega))
    have Hok := Lib.hid (nameErr_ok (s := s) (by omega))
    by_cases h0 : s.size = 0
    · have hnil : s = ⟨#[]⟩ := ByteArray.size_eq_zero_iff.1 h0
      subst hnil
      have HB := Lib.hid (Hsl.out rfl)
      go_enter Tryz.func133, Tryz.ntmps133
      go_wp2
      go_ret
      exact ⟨ret_int HB.out.symm, rfl⟩
    · have hne : s.toList ≠ [] := by
        rw [ByteArray.toList_eq]; intro e; apply h0; have := congrArg List.length e; simpa using this
      have hne1 : s.toList.isEmpty = false := by cases h : s.toList <;> simp_all
      have hix0 := fun w => index_str (P := Tryz.prog) 9 Tryz.underlying9 (s := s) 0 (by omega) w
      have hixl := fun w => index_str (P := Tryz.prog) 9 Tryz.underlying9 (s := s) (s.size - 1) (by omega) w
      rw [show ((s.size - 1 : Nat) : Int) = (s.size : Int) - 1 by omega] at hixl
      rw [show ((0 : Nat) : Int) = 0 from rfl] at hix0
      cases q0 : (byt s 0 == 47)
      · cases ql : (byt s (s.size - 1) == 47)
        · have Hq0 := Lib.hid (show byt s 0 ≠ 47 by simpa using q0)
          have Hql := Lib.hid (show ahead s s.size ≠ 47 by unfold ahead; rw [if_neg h0]; simpa using ql)
          go_enter Tryz.func133, Tryz.ntmps133
          go_wp2_with fail
          clear hix0 hixl q0 ql hne hne1
          go_loop [3] (fun i => ∃ k : Nat, k ≤ s.size ∧ i = .int .i64 k ∧ Hid (∀ j, j < k → badAt s j = false)) (fun i => s.size - (intOf i).toNat)
          case atStart => exact ⟨0, by omega, rfl, fun j hj => absurd hj (by omega)⟩
          case round =>
            obtain ⟨k, hk, rfl, Hs⟩ := hrel
            by_cases hlt : k < s.size
            · have hix := fun w => index_str (P := Tryz.prog) 9 Tryz.underlying9 (s := s) k hlt w
              have Hsm := Lib.hid (badAt_same (s := s) (i := k) (fun _ => Hq0.out))
              have Hb := Lib.hid (show badAt' s k = ((!within (byt s k) 97 122 && !within (byt s k) 48 57 && byt s k != 45 && byt s k != 47) || (byt s k == 47 && byt s (k - 1) == 47)) from rfl)
              have hr := byt_range s k
              have hwi := wrap_in (n := byt s k) (by omega)
              have HF := Lib.hid (fun (h : badAt' s k = false) => show badAt s k = false by rw [← Hsm.out]; exact h)
              have HT := Lib.hid (fun (h : badAt' s k = true) => Hbad.out k hlt (by rw [← Hsm.out]; exact h))
              cases q4 : (byt s k == 47)
              · have q4' : (byt s k != 47) = true := by show (!(byt s k == 47)) = true; rw [q4]; rfl
                cases q1 : within (byt s k) 97 122 <;> cases q2 : within (byt s k) 48 57 <;> cases q3 : (byt s k == 45)
                all_goals
                  have q3' : (byt s k != 45) = !(byt s k == 45) := rfl
                  rw [q3] at q3'
                  simp only [Bool.not_true, Bool.not_false] at q3'
                  first
                    | (have HB := Lib.hid (HF.out (by rw [Hb.out, q1, q2, q3', q4, q4']; rfl))
                       go_wp2_with (go_at_call 105; refine (between_any _ _ _ _).mono ?_; rintro e w' ⟨rfl, rfl⟩)
                       go_round
                       case rel => exact ⟨k + 1, by omega, by go_num, all_next Hs.out HB.out⟩
                       case measure => simp [intOf]; omega)
                    | (have HB := Lib.hid (HT.out (by rw [Hb.out, q1, q2, q3', q4, q4']; rfl))
                       go_wp2_with (go_at_call 105; refine (between_any _ _ _ _).mono ?_; rintro e w' ⟨rfl, rfl⟩)
                       go_ret
                       exact ⟨ret_int HB.out.symm, rfl⟩)
              · have q4' : (byt s k != 47) = false := by show (!(byt s k == 47)) = false; rw [q4]; rfl
                have hk0 : 0 < k := by
                  rcases Nat.eq_zero_or_pos k with e | e
                  · subst e; exact absurd (by simpa using q4) Hq0.out
                  · exact e
                have hixp := fun w => index_str (P := Tryz.prog) 9 Tryz.underlying9 (s := s) (k - 1) (by omega) w
                rw [show ((k - 1 : Nat) : Int) = (k : Int) - 1 by omega] at hixp
                cases q1 : within (byt s k) 97 122 <;> cases q2 : within (byt s k) 48 57 <;> cases q3 : (byt s k == 45) <;> cases q5 : (byt s (k - 1) == 47)
                all_goals
                  have q3' : (byt s k != 45) = !(byt s k == 45) := rfl
                  rw [q3] at q3'
                  simp only [Bool.not_true, Bool.not_false] at q3'
                  first
                    | (have HB := Lib.hid (HF.out (by rw [Hb.out, q1, q2, q3', q4, q4', q5]; rfl))
                       go_wp2_with (go_at_call 105; refine (between_any _ _ _ _).mono ?_; rintro e w' ⟨rfl, rfl⟩)
                       go_round
                       case rel => exact ⟨k + 1, by omega, by go_num, all_next Hs.out HB.out⟩
                       case measure => simp [intOf]; omega)
                    | (have HB := Lib.hid (HT.out (by rw [Hb.out, q1, q2, q3', q4, q4', q5]; rfl))
                       go_wp2_with (go_at_call 105; refine (between_any _ _ _ _).mono ?_; rintro e w' ⟨rfl, rfl⟩)
                       go_ret
                       exact ⟨ret_int HB.out.symm, rfl⟩)
            · obtain rfl : k = s.size := by omega
              have HB := Lib.hid (Hok.out Hs.out Hql.out)
              go_wp2
              go_ret
              exact ⟨ret_int HB.out.symm, rfl⟩
        · have HB := Lib.hid (Hsl.out (show ahead s s.size = 47 by unfold ahead; rw [if_neg h0]; simpa using ql))
          go_enter Tryz.func133, Tryz.ntmps133
          go_wp2
          go_ret
          exact ⟨ret_int HB.out.symm, rfl⟩
      · have HB := Lib.hid (Hbad.out 0 (by omega) (bad_slash0 (by simpa using q0)))
        go_enter Tryz.func133, Tryz.ntmps133
        go_wp2
        go_ret
        exact ⟨ret_int HB.out.symm, rfl⟩
end Go.Proofs.YtjdgpgfiomnjkaaGreatDoor
namespace Go.Proofs.YtjdgpgfiomnjkaaGreatDoor
open Go.RowKit
set_option linter.unusedVariables false
set_option linter.unusedSimpArgs false
set_option linter.unusedSectionVars false
variable [Ghost]
set_option maxHeartbeats 1000000 in
theorem refAt_any (l : List Rf) (v : Value) (S : Nat → Prop) (s : ByteArray) (w : World) (h : RefsV S w v l) :
  Calls Tryz.prog 121 #[v, .string s] w fun e w' => e = .returned (.int .i64 (findRf l s)) ∧ w = w' := by
 obtain ⟨a, n, cap, HN, rfl, h1, h2, h3, h4, h5⟩ := h.open
 clear h h5
 have Hh := Lib.hid (fun k h1 hk he => findRf_hit (l := l) (s := s) (k := k) h1 (by rw [← HN.out]; exact hk) he)
 have Hn := Lib.hid (fun h1 => findRf_none (l := l) (s := s) (by rw [← HN.out]; exact h1))
 go_enter Tryz.func121, Tryz.ntmps121
 go_wp2
 go_loop [5] (fun i => ∃ k : Nat, k ≤ n ∧ i = .int .i64 k ∧ Hid (∀ j, j < k → ((rf l j).name.toList == s.toList) = false)) (fun i => n - (intOf i).toNat)
 case atStart => exact ⟨0, by omega, rfl, fun j hj => absurd hj (by omega)⟩
 case round =>
  obtain ⟨k, hk, rfl, Hs⟩ := hrel
  by_cases hlt : k < n
  ·obtain ⟨b, off, rfl, hb, k0, k1⟩ := h4 (by omega)
   have x0 := k0 k w hlt (Below.refl _ _)
   clear h4 k0 k1
   cases hq : ((rf l k).name.toList == s.toList)
   ·have He := Lib.hid hq
    go_wp2
    go_round
    case rel => exact ⟨k + 1, by omega, by go_num, all_next Hs.out He.out⟩
    case measure => simp [intOf]; omega
   ·have HK := Lib.hid (Hh.out k Hs.out hlt hq)
    go_wp2
    go_ret
    exact ⟨ret_int HK.out.symm, rfl⟩
  ·obtain rfl : k = n := by omega
   have HK := Lib.hid (Hn.out Hs.out)
   go_wp2
   go_ret
   exact ⟨ret_int HK.out.symm, rfl⟩
def idxP (p : Rf → Bool) (l : List Rf) : Int := match l.findIdx? p with | some i => (i : Int) | none => -1
theorem idxP_hit {l : List Rf} {p : Rf → Bool} {k : Nat} (h : ∀ j, j < k → p (rf l j) = false) (hk : k < l.length) (he : p (rf l k) = true) : idxP p l = k := by
 unfold idxP
 have : l.findIdx? p = some k := by
  rw [List.findIdx?_eq_some_iff_getElem]
  refine ⟨hk, by rw [← rf_lt hk]; exact he, fun j hj => ?_⟩
  have := h j hj
  rw [rf_lt (by omega)] at this
  simp [this]
 rw [this]
theorem idxP_none {l : List Rf} {p : Rf → Bool} (h : ∀ j, j < l.length → p (rf l j) = false) : idxP p l = -1 := by
 unfold idxP
 have : l.findIdx? p = none := by
  rw [List.findIdx?_eq_none_iff]
  intro x hx
  obtain ⟨i, hi, rfl⟩ := List.getElem_of_mem hx
  have := h i hi
  rwa [rf_lt hi] at this
 rw [this]
theorem idxP_cases (p : Rf → Bool) (l : List Rf) : (idxP p l = -1 ∧ ∀ j, j < l.length → p (rf l j) = false) ∨ ∃ k, k < l.length ∧ idxP p l = (k : Int) ∧ p (rf l k) = true := by
 unfold idxP
 cases h : l.findIdx? p with
 | none =>
  rw [List.findIdx?_eq_none_iff] at h
  exact .inl ⟨rfl, fun j hj => by rw [rf_lt hj]; exact h _ (List.getElem_mem hj)⟩
 | some k =>
  rw [List.findIdx?_eq_some_iff_getElem] at h
  obtain ⟨hk, he, _⟩ := h
  exact .inr ⟨k, hk, rfl, by rw [rf_lt hk]; exact he⟩
def AsksP' (g : Nat) (c : Value) (p : Rf → Bool) (w : World) (l : List Rf) : Prop :=
 ∀ (x : World) (i : Nat), i < l.length → Below w.heap.size w x → Calls Tryz.prog g #[.agg #[.string (rf l i).name, .int .i64 (rf l i).id], c] x fun e w' => e = .returned (.bool (p (rf l i))) ∧ Below x.heap.size x w'
set_option maxHeartbeats 1000000 in
theorem indexFunc_any' (l : List Rf) (v c : Value) (S : Nat → Prop) (g : Nat) (p : Rf → Bool) (w : World) (h : RefsV S w v l) (eg : ∀ args w, (callFunc g args).run Tryz.prog w = .ok (.enter g args) w) (hp : AsksP' g c p w l) :
  Calls Tryz.prog 180 #[v, .func (.func g) #[] #[c]] w fun e w' => e = .returned (.int .i64 (idxP p l)) ∧ Below w.heap.size w w' := by
 obtain ⟨a, n, cap, HN, rfl, h1, h2, h3, h4, h5⟩ := h.open
 clear h h5
 obtain ⟨R, hR, hR1, _⟩ := cls_plain w
 have hRb := hR.below
 have hRn := hR.next
 have Hp := Lib.hid (fun x k (hk : k < n) hx => hp x k (by rw [← HN.out]; exact hk) hx); clear hp
 have Hh := Lib.hid (fun k h1 hk he => idxP_hit (l := l) (p := p) (k := k) h1 (by rw [← HN.out]; exact hk) he)
 have Hn := Lib.hid (fun h1 => idxP_none (l := l) (p := p) (by rw [← HN.out]; exact h1))
 go_enter Tryz.func180, Tryz.ntmps180
 go_wp2_with fail
 go_loopw [8] (fun i wr => ∃ k : Nat, k ≤ n ∧ i = .int .i64 k ∧ Hid (∀ j, j < k → p (rf l j) = false) ∧ In R wr) (fun i _ => n - (intOf i).toNat)
 case atStart => exact ⟨0, by omega, rfl, fun j hj => absurd hj (by omega), hR1⟩
 case round =>
  obtain ⟨k, hk, rfl, Hs, hRw⟩ := hrel
  clear hR1
  by_cases hlt : k < n
  ·obtain ⟨b, off, rfl, hb, k0, k1⟩ := h4 (by omega)
   have x0 := k0 k wr hlt (hRb _ hRw)
   have x1 := k1 k wr hlt (hRb _ hRw)
   clear h4 k0 k1
   cases hq : p (rf l k)
   ·have He := Lib.hid hq
    go_wp2_with fail
    refine (Hp.out _ k hlt (hRb _ hRw)).mono ?_
    rintro e w' ⟨rfl, hb2⟩
    rw [hq]
    have hR2 := hRn _ _ hRw hb2
    go_wp2_with fail
    go_roundw
    case rel => exact ⟨k + 1, by omega, by go_num, all_next Hs.out He.out, hR2⟩
    case measure => simp [intOf]; omega
   ·have HK := Lib.hid (Hh.out k Hs.out hlt hq)
    go_wp2_with fail
    refine (Hp.out _ k hlt (hRb _ hRw)).mono ?_
    rintro e w' ⟨rfl, hb2⟩
    rw [hq]
    have hR2 := hRn _ _ hRw hb2
    go_wp2_with fail
    go_ret
    exact ⟨ret_int HK.out.symm, hRb _ hR2⟩
  ·obtain rfl : k = n := by omega
   have HK := Lib.hid (Hn.out Hs.out)
   go_wp2_with fail
   go_ret
   exact ⟨ret_int HK.out.symm, hRb _ hRw⟩
end Go.Proofs.YtjdgpgfiomnjkaaGreatDoor
namespace Go.Proofs.YtjdgpgfiomnjkaaGreatDoor
open Go.RowKit
set_option linter.unusedVariables false
set_option linter.unusedSimpArgs false
set_option linter.unusedSectionVars false
variable [Ghost]
set_option maxHeartbeats 400000 in
theorem find1_any (r : Rf) (s : ByteArray) (a : Addr) (w : World) (hc : w.cell? a = some (.string s)) :
  Calls Tryz.prog 181 #[.agg #[.string r.name, .int .i64 r.id], .pointer (some a)] w fun e w' => e = .returned (.bool (r.name.toList == s.toList)) ∧ Below w.heap.size w w' := by
 obtain ⟨R, hR, hR1, hx⟩ := cls_box w #[.string r.name, .int .i64 r.id] 62
 have hx0 := hx 0 _ rfl _ hR1
 have hx1 := hx 1 _ rfl _ hR1
 have hc2 := below_cell (hR.below _ hR1) hc
 have hbw := hR.below _ hR1
 clear hx hR1 hR hc
 generalize hq : (r.name.toList == s.toList) = q
 go_enter Tryz.func181, Tryz.ntmps181
 go_wp2_with fail
 go_ret
 exact ⟨rfl, hbw⟩
set_option maxRecDepth 100000 in
set_option maxHeartbeats 400000 in
theorem find_any (l : List Rf) (v : Value) (S : Nat → Prop) (s : ByteArray) (w : World) (h : RefsV S w v l) :
  Calls Tryz.prog 125 #[v, .string s] w fun e w' => e = .returned (.int .i64 (findRf l s)) ∧ Below w.heap.size w w' := by
 obtain ⟨p, rfl⟩ := h.shape
 obtain ⟨R, hR, hR1, hc⟩ := cls_box w #[.string s] 9
 have hc0 := hc 0 _ rfl
 have hRb := hR.below
 have hRn := hR.next
 have Hap := Lib.hid (show AsksP' 181 (.pointer (some ⟨w.heap.size, 0, none⟩)) (fun r => r.name.toList == s.toList) (w.alloc (.cells #[.string s] 9)) l from fun x i _ hx => find1_any (rf l i) s _ x (hc0 x (hRn _ _ hR1 hx)))
 have hmf : ∀ (fn : Fn) (first cap : Array Value) (w : World), (Instr.makeFunc fn first cap).run Tryz.prog w = .ok (.func fn first cap) w := fun _ _ _ _ => rfl
 clear hc
 go_enter Tryz.func125, Tryz.ntmps125
 go_wp2_with (go_at_call 180; refine (indexFunc_any' l _ _ S _ _ _ (h.below (hRb _ hR1)) (fun _ _ => rfl) Hap.out).mono ?_; rintro e w' ⟨rfl, hb2⟩)
 go_ret
 exact ⟨rfl, hRb _ (hRn _ _ hR1 hb2)⟩
set_option maxHeartbeats 400000 in
theorem refsCommit_any (objs : List Obj) (v : Value) (S : Nat → Prop) (id : Int) (w : World) (h : StoreV S w v objs) (hr : Rising objs) :
  Calls Tryz.prog 191 #[v, .int .i64 id] w fun e w' => e = .returned (.int .i64 (commitErr objs id)) ∧ Below w.heap.size w w' := by
 obtain ⟨a, cap, n, rfl⟩ : ∃ a cap n, v = .slice a n cap := let ⟨_, ⟨a, cap, hv, _⟩, _⟩ := h; ⟨a, cap, _, hv⟩
 have Hk := Lib.hid (fun x (hx : Below w.heap.size w x) => kind_any objs _ S id x (h.below hx) hr)
 unfold commitErr
 generalize kindOf objs id = kd at *
 by_cases h0 : kd = 0
 ·have q0 : (kd == 0) = true := by simpa using h0
  go_enter Tryz.func191, Tryz.ntmps191
  go_wp2_with (go_at_call 92; refine (Hk.out _ (Below.refl _ _)).mono ?_; rintro e w' ⟨rfl, hb2⟩)
  go_ret
  exact ⟨rfl, hb2⟩
 ·have q0 : (kd == 0) = false := by simpa using h0
  by_cases h3 : kd = 3
  ·have q3 : (kd == 3) = true := by simpa using h3
   go_enter Tryz.func191, Tryz.ntmps191
   go_wp2_with (go_at_call 92; refine (Hk.out _ (Below.refl _ _)).mono ?_; rintro e w' ⟨rfl, hb2⟩)
   go_ret
   exact ⟨rfl, hb2⟩
  ·have q3 : (kd == 3) = false := by simpa using h3
   go_enter Tryz.func191, Tryz.ntmps191
   go_wp2_with (go_at_call 92; refine (Hk.out _ (Below.refl _ _)).mono ?_; rintro e w' ⟨rfl, hb2⟩)
   go_ret
   exact ⟨rfl, hb2⟩
set_option maxHeartbeats 400000 in
theorem checkCommit_any (objs : List Obj) (v : Value) (S : Nat → Prop) (id : Int) (w : World) (h : StoreV S w v objs) :
  Calls Tryz.prog 188 #[v, .int .i64 id] w fun e w' => e = .returned (.int .i64 (commitErr objs id)) ∧ w = w' := by
 obtain ⟨a, cap, n, rfl⟩ : ∃ a cap n, v = .slice a n cap := let ⟨_, ⟨a, cap, hv, _⟩, _⟩ := h; ⟨a, cap, _, hv⟩
 have Hk := Lib.hid (kindOf_any objs _ S id w h)
 unfold commitErr
 generalize kindOf objs id = kd at *
 by_cases h0 : kd = 0
 ·have q0 : (kd == 0) = true := by simpa using h0
  go_enter Tryz.func188, Tryz.ntmps188
  go_wp2_with (go_at_call 185; refine Hk.out.mono ?_; rintro e w' ⟨rfl, rfl⟩)
  go_ret
  exact ⟨rfl, rfl⟩
 ·have q0 : (kd == 0) = false := by simpa using h0
  by_cases h3 : kd = 3
  ·have q3 : (kd != 3) = false := by simpa using h3
   go_enter Tryz.func188, Tryz.ntmps188
   go_wp2_with (go_at_call 185; refine Hk.out.mono ?_; rintro e w' ⟨rfl, rfl⟩)
   go_ret
   exact ⟨rfl, rfl⟩
  ·have q3 : (kd != 3) = true := by simpa using h3
   go_enter Tryz.func188, Tryz.ntmps188
   go_wp2_with (go_at_call 185; refine Hk.out.mono ?_; rintro e w' ⟨rfl, rfl⟩)
   go_ret
   exact ⟨rfl, rfl⟩
end Go.Proofs.YtjdgpgfiomnjkaaGreatDoor
namespace Go.Proofs.YtjdgpgfiomnjkaaGreatDoor
open Go.RowKit
set_option linter.unusedVariables false
set_option linter.unusedSimpArgs false
set_option linter.unusedSectionVars false
variable [Ghost]
set_option maxHeartbeats 400000 in
theorem liteHasPrefix_any (x p : ByteArray) (w : World) (hx : x.size ≤ 140737488351232) (hp : p.size ≤ 9223372036854775807) :
  Calls Tryz.prog 184 #[.string x, .string p] w fun e w' => e = .returned (.bool (decide (p.size ≤ x.size) && ((x.extract 0 p.size).toList == p.toList))) ∧ w = w' := by
 by_cases h : p.size ≤ x.size
 ·have hd : decide (p.size ≤ x.size) = true := by simpa using h
  have Hd := Lib.hid hd; clear hd
  generalize hq : ((x.extract 0 p.size).toList == p.toList) = q
  go_enter Tryz.func184, Tryz.ntmps184
  go_wp2
  go_ret
  exact ⟨by simp [*], rfl⟩
 ·have hd : decide (p.size ≤ x.size) = false := by simpa using h
  have Hd := Lib.hid hd; clear hd
  go_enter Tryz.func184, Tryz.ntmps184
  go_wp2
  go_ret
  exact ⟨by simp [*], rfl⟩
set_option maxHeartbeats 400000 in
theorem hasPrefix_any (x p : ByteArray) (w : World) (hx : x.size ≤ 140737488351232) (hp : p.size ≤ 9223372036854775807) :
  Calls Tryz.prog 132 #[.string x, .string p] w fun e w' => e = .returned (.bool (decide (p.size ≤ x.size) && ((x.extract 0 p.size).toList == p.toList))) ∧ w = w' := by
 have hl := Lib.hid (liteHasPrefix_any x p w hx hp)
 generalize (decide (p.size ≤ x.size) && ((x.extract 0 p.size).toList == p.toList)) = b at *
 go_enter Tryz.func132, Tryz.ntmps132
 go_wp2_with fail
 refine hl.out.mono ?_
 rintro e w' ⟨rfl, rfl⟩
 go_wp2_with fail
 go_ret
 exact ⟨rfl, rfl⟩
set_option maxHeartbeats 400000 in
theorem right1_any (r x : Rf) (a : Addr) (w : World) (hc : w.cell? a = some (.string r.name)) (ha : a.spot = none) (hr : r.name.size ≤ 140737488351232) (hx : x.name.size ≤ 140737488351232) :
  Calls Tryz.prog 193 #[.agg #[.string x.name, .int .i64 x.id], .pointer (some a)] w fun e w' => e = .returned (.bool (inPlace r.name x.name)) ∧ Below w.heap.size w w' := by
 obtain ⟨b, off, sp⟩ := a
 simp only at ha
 subst ha
 obtain ⟨R, hR, hR1, hxx⟩ := cls_box w #[.string x.name, .int .i64 x.id] 62
 have hx0 := hxx 0 _ rfl _ hR1
 have hx1 := hxx 1 _ rfl _ hR1
 have hc2 := below_cell (hR.below _ hR1) hc
 have hbw := hR.below _ hR1
 have hsz : (r.name ++ ⟨#[47]⟩ : ByteArray).size = r.name.size + 1 := by rw [ByteArray.size_append]; rfl
 have Hp := Lib.hid (fun w => hasPrefix_any x.name (r.name ++ ⟨#[47]⟩) w hx (by rw [hsz]; omega))
 have Hq := Lib.hid (prefix_slash r.name x.name)
 clear hsz
 clear hxx hR1 hR hc
 go_enter Tryz.func193, Tryz.ntmps193
 go_wp2_with fail
 refine (Hp.out _).mono ?_
 rintro e w' ⟨rfl, rfl⟩
 rw [Hq.out]
 go_wp2_with fail
 go_ret
 exact ⟨rfl, hbw⟩
set_option maxHeartbeats 400000 in
theorem containsFunc_any (l : List Rf) (v c : Value) (S : Nat → Prop) (g : Nat) (p : Rf → Bool) (w : World) (h : RefsV S w v l) (eg : ∀ args w, (callFunc g args).run Tryz.prog w = .ok (.enter g args) w) (hp : AsksP' g c p w l) :
  Calls Tryz.prog 192 #[v, .func (.func g) #[] #[c]] w fun e w' => e = .returned (.bool (l.any p)) ∧ Below w.heap.size w w' := by
 obtain ⟨q, rfl⟩ := h.shape
 have Hi := Lib.hid (indexFunc_any' l _ c S g p w h eg hp)
 rcases idxP_cases p l with ⟨h0, h1⟩ | ⟨k, hk, h0, h1⟩
 ·have Ha := Lib.hid (show l.any p = false by
   rw [List.any_eq_false]
   intro x hx
   obtain ⟨i, hi, rfl⟩ := List.getElem_of_mem hx
   have := h1 i hi
   rw [rf_lt hi] at this
   simp [this])
  clear h1 hp
  go_enter Tryz.func192, Tryz.ntmps192
  go_wp2_with fail
  refine Hi.out.mono ?_
  rintro e w' ⟨rfl, hb⟩
  rw [h0]
  go_wp2_with fail
  go_ret
  exact ⟨by rw [Ha.out]; rfl, hb⟩
 ·have Ha := Lib.hid (show l.any p = true by
   rw [List.any_eq_true]
   exact ⟨rf l k, by rw [rf_lt hk]; exact List.getElem_mem hk, h1⟩)
  have hd : decide ((0 : Int) ≤ (k : Int)) = true := by simp
  clear h1 hp
  go_enter Tryz.func192, Tryz.ntmps192
  go_wp2_with fail
  refine Hi.out.mono ?_
  rintro e w' ⟨rfl, hb⟩
  rw [h0]
  go_wp2_with fail
  go_ret
  exact ⟨by rw [Ha.out]; first | rfl | simp, hb⟩
theorem any_pair {l : List Rf} {k : Nat} : (l.any fun x => inPlace (rf l k).name x.name) = true → ∃ i, i < l.length ∧ inPlace (rf l k).name (rf l i).name = true := by
 intro h
 rw [List.any_eq_true] at h
 obtain ⟨x, hx, h⟩ := h
 obtain ⟨i, hi, rfl⟩ := List.getElem_of_mem hx
 exact ⟨i, hi, by rw [rf_lt hi]; exact h⟩
theorem no_pair {l : List Rf} {k : Nat} (h : (l.any fun x => inPlace (rf l k).name x.name) = false) : ∀ i, i < l.length → inPlace (rf l k).name (rf l i).name = false := by
 intro i hi
 rw [List.any_eq_false] at h
 have := h _ (List.getElem_mem hi)
 rw [rf_lt hi]; simpa using this
set_option maxRecDepth 100000 in
set_option maxHeartbeats 4000000 in
theorem right_any (l : List Rf) (objs : List Obj) (v u : Value) (S S' : Nat → Prop) (w : World) (h : RefsV S w v l) (ho : StoreV S' w u objs) (hr : Rising objs) :
  Calls Tryz.prog 138 #[v, u] w fun e w' => e = .returned (.int .i64 (rightErr l objs)) ∧ Below w.heap.size w w' := by
 have h' := h
 obtain ⟨a, n, cap, HN, rfl, h1, h2, h3, h4, h5⟩ := h.open
 clear h
 obtain ⟨ua, uc, un, rfl⟩ : ∃ a cap n, u = .slice a n cap := let ⟨_, ⟨a, cap, hv, _⟩, _⟩ := ho; ⟨a, cap, _, hv⟩
 have hmf : ∀ (fn : Fn) (first cap : Array Value) (w : World), (Instr.makeFunc fn first cap).run Tryz.prog w = .ok (.func fn first cap) w := fun _ _ _ _ => rfl
 obtain ⟨R, hR, hR1, _⟩ := cls_plain w
 have hRb := hR.below
 have hRn := hR.next
 by_cases h8 : 8 < n
 ·have He := Lib.hid (rightErr_many (l := l) (objs := objs) (by rw [← HN.out]; exact h8))
  go_enter Tryz.func138, Tryz.ntmps138
  go_wp2_with fail
  go_ret
  exact ⟨ret_int He.out.symm, hRb _ hR1⟩
 ·have hl8 : l.length ≤ 8 := by rw [← HN.out]; omega
  have Href := Lib.hid (fun i e (h0 : scan (refErr l objs) i = 0) (hi : i < n) (he : refErr l objs i = e) (hne : e ≠ 0) => rightErr_ref hl8 h0 (by rw [← HN.out]; exact hi) he hne)
  have Hpair := Lib.hid (fun i k (h0 : scan (refErr l objs) n = 0) (hi : i < n) (hk : k < l.length) (he : inPlace (rf l i).name (rf l k).name = true) => rightErr_pair hl8 (by rw [← HN.out]; exact h0) (by rw [← HN.out]; exact hi) hk he)
  have Hok := Lib.hid (fun (h0 : scan (refErr l objs) n = 0) (hp : ∀ i, i < n → ∀ k, k < l.length → inPlace (rf l i).name (rf l k).name = false) => rightErr_ok (l := l) (objs := objs) hl8 (by rw [← HN.out]; exact h0) (fun i k hi hk => hp i (by rw [HN.out]; exact hi) k hk))
  clear hl8
  go_enter Tryz.func138, Tryz.ntmps138
  go_wp2_with fail
  go_loopw [15] (fun i wr => ∃ k : Nat, k ≤ n ∧ i = .int .i64 k ∧ Hid (scan (refErr l objs) k = 0) ∧ In R wr) (fun i _ => n - (intOf i).toNat)
  case atStart => exact ⟨0, by omega, rfl, rfl, hR1⟩
  case round =>
   obtain ⟨k, hk, rfl, Hs, hRw⟩ := hrel
   clear hR1
   by_cases hlt : k < n
   ·obtain ⟨b, off, rfl, hb, k0, k1⟩ := h4 (by omega)
    have x0 := k0 k wr hlt (hRb _ hRw)
    have x1 := k1 k wr hlt (hRb _ hRw)
    have hnm := (h5 k hlt).2
    have Hk0 := Lib.hid k0
    clear h4 h5 k0 k1
    obtain ⟨Q, hQ, hQ1, hy⟩ := cls_box wr #[.string (rf l k).name, .int .i64 (rf l k).id] 62
    have y0 := hy 0 _ rfl
    have y1 := hy 1 _ rfl
    clear hy
    have hQb : ∀ x, In Q x → Below w.heap.size w x := fun x hx => below_next (hRb _ hRw) (hQ.below x hx)
    have hQn := hQ.next
    have hQd := hQ.drewN
    have Hre := Lib.hid (show refErr l objs k = if nameErr (rf l k).name ≠ 0 then nameErr (rf l k).name else if 0 < k ∧ strLt (rf l (k - 1)).name (rf l k).name = false then 4 else commitErr objs (rf l k).id from rfl)
    generalize hne : nameErr (rf l k).name = ne at *
    have Hna := Lib.hid (fun x => by have := name_any (rf l k).name x hnm; rw [hne] at this; exact this)
    clear hne hnm
    go_wp2_with fail
    refine (Hna.out _).mono ?_
    rintro e w2 ⟨rfl, rfl⟩
    go_upto_region 7 with fail
    go_cut [39] (fun s39 wx => s39 = .bool (decide (ne = 0 ∧ 0 < k ∧ strLt (rf l (k - 1)).name (rf l k).name = false)) ∧ ∃ x, x = wx ∧ In Q x)
    case first =>
     cases hz : (ne == 0)
     ·have Hz := Lib.hid (show ne ≠ 0 by simpa using hz)
      go_quiet (fail)
      go_wp2_with fail
      go_meet
      exact ⟨by simp [Hz.out], _, rfl, hQd _ _ hQ1⟩
     ·have Hz := Lib.hid (show ne = 0 by simpa using hz)
      by_cases hk0 : 0 < k
      ·have hkm : ∀ x, In Q x → x.cell? ⟨b, off + (k - 1) * 2, none⟩ = some (.string (rf l (k - 1)).name) := fun x hx => Hk0.out (k - 1) x (by omega) (hQb x hx)
       have hi3 : (0 : Int) ≤ (k : Int) - 1 := by omega
       have hi4 : (1 : Int) ≤ (k : Int) := by omega
       have hi5 : (k : Int) - 1 < (n : Int) := by omega
       have hi6 : (0 : Int) < (k : Int) := by omega
       have hwr2 := wrap_in (n := (k : Int) - 1) (by omega)
       have htn : ((k : Int) - 1).toNat = k - 1 := by omega
       have Hst := Lib.hid (show strLt (rf l (k - 1)).name (rf l k).name = Op.bytesLess (rf l (k - 1)).name.toList (rf l k).name.toList from rfl)
       cases hq : Op.bytesLess (rf l (k - 1)).name.toList (rf l k).name.toList
       all_goals
        go_quiet (fail)
        go_wp2_with fail
        go_meet
        exact ⟨by rw [Hst.out, hq]; simp [Hz.out, hk0], _, rfl, hQd _ _ hQ1⟩
      ·have hd : decide ((0 : Int) < (k : Int)) = false := by simp; omega
       go_quiet (fail)
       go_wp2_with fail
       go_meet
       exact ⟨by simp [hk0], _, rfl, hQd _ _ hQ1⟩
    case rest =>
     obtain ⟨rfl, w3, rfl, hQ3⟩ := hcut
     clear hQ1 x0 x1
     by_cases hbad : ne = 0 ∧ 0 < k ∧ strLt (rf l (k - 1)).name (rf l k).name = false
     ·have hd : decide (ne = 0 ∧ 0 < k ∧ strLt (rf l (k - 1)).name (rf l k).name = false) = true := by simpa using hbad
      rw [hd]
      have HE := Lib.hid (Href.out k 4 Hs.out hlt (by rw [Hre.out, if_neg (by simp [hbad.1]), if_pos ⟨hbad.2.1, hbad.2.2⟩]) (by decide))
      clear hbad hd
      go_wp2
      go_ret
      exact ⟨ret_int HE.out.symm, hQb _ hQ3⟩
     ·have hd : decide (ne = 0 ∧ 0 < k ∧ strLt (rf l (k - 1)).name (rf l k).name = false) = false := by simpa using hbad
      rw [hd]
      clear hd
      have Hbad := Lib.hid hbad; clear hbad
      cases hz : (ne == 0)
      ·have hz2 : (ne != 0) = true := by show (!(ne == 0)) = true; rw [hz]; rfl
       have HE := Lib.hid (Href.out k ne Hs.out hlt (by rw [Hre.out, if_pos (by simpa using hz)]) (by simpa using hz))
       go_wp2
       go_ret
       exact ⟨ret_int HE.out.symm, hQb _ hQ3⟩
      ·have HE := Lib.hid (show refErr l objs k = commitErr objs (rf l k).id by
        have hne0 : ne = 0 := by simpa using hz
        rw [Hre.out, if_neg (by simp [hne0]), if_neg (fun h => Hbad.out ⟨hne0, h.1, h.2⟩)])
       have y13 := y1 _ hQ3
       go_wp2_with fail
       refine (refsCommit_any objs _ S' _ _ (ho.below (hQb _ hQ3)) hr).mono ?_
       rintro e w4 ⟨rfl, hb4⟩
       have hQ4 := hQn _ _ hQ3 hb4
       clear hb4 y13
       by_cases hce : commitErr objs (rf l k).id = 0
       ·have hce' : (commitErr objs (rf l k).id != 0) = false := by simpa using hce
        have HN2 := Lib.hid (scan_next Hs.out (HE.out.trans hce))
        clear hce
        go_wp2_with fail
        go_roundw
        case rel => exact ⟨k + 1, by omega, by go_num, HN2.out, hRn _ _ hRw (hQ.below _ hQ4)⟩
        case measure => simp [intOf]; omega
       ·have hce' : (commitErr objs (rf l k).id != 0) = true := by simpa using hce
        have HN2 := Lib.hid (Href.out k _ Hs.out hlt HE.out hce)
        clear hce
        go_wp2_with fail
        go_ret
        exact ⟨ret_int HN2.out.symm, hQb _ hQ4⟩
   ·obtain rfl : k = n := by omega
    go_wp2_with fail
    go_loopw [52] (fun i wr => ∃ m : Nat, m ≤ k ∧ i = .int .i64 m ∧ Hid (∀ i, i < m → ∀ j, j < l.length → inPlace (rf l i).name (rf l j).name = false) ∧ In R wr) (fun i _ => k - (intOf i).toNat)
    case atStart => exact ⟨0, by omega, rfl, fun i hi => absurd hi (by omega), hRw⟩
    case round =>
     obtain ⟨m, hm, rfl, Hm, hRv⟩ := hrel
     clear hRw
     by_cases hlt2 : m < k
     ·obtain ⟨b, off, rfl, hb, k0, k1⟩ := h4 (by omega)
      have x0 := k0 m wr hlt2 (hRb _ hRv)
      have x1 := k1 m wr hlt2 (hRb _ hRv)
      have hnm := (h5 m hlt2).2
      have H5 := Lib.hid (fun i (hi : i < l.length) => (h5 i (by rw [HN.out]; exact hi)).2)
      clear h4 h5 k0 k1
      obtain ⟨Q, hQ, hQ1, hy⟩ := cls_box wr #[.string (rf l m).name, .int .i64 (rf l m).id] 62
      have Hy := Lib.hid (hy 0 _ rfl)
      clear hy
      have hQb : ∀ x, In Q x → Below w.heap.size w x := fun x hx => below_next (hRb _ hRv) (hQ.below x hx)
      have hQn := hQ.next
      have Hap := Lib.hid (show AsksP' 193 (.pointer (some ⟨wr.heap.size, 0, none⟩)) (fun x => inPlace (rf l m).name x.name) (wr.alloc (.cells #[.string (rf l m).name, .int .i64 (rf l m).id] 62)) l from
       fun x i hi hx => right1_any (rf l m) (rf l i) ⟨wr.heap.size, 0, none⟩ x (Hy.out x (hQn _ _ hQ1 hx)) rfl hnm (H5.out i hi))
      clear hnm
      go_wp2_with fail
      refine (containsFunc_any l _ _ S _ _ _ (h'.below (hQb _ hQ1)) (fun _ _ => rfl) Hap.out).mono ?_
      rintro e w4 ⟨rfl, hb4⟩
      have hQ4 := hQn _ _ hQ1 hb4
      clear hb4 x0 x1
      cases hany : (l.any fun x => inPlace (rf l m).name x.name)
      ·have HM := Lib.hid (all_next Hm.out (no_pair hany))
       go_wp2_with fail
       go_roundw
       case rel => exact ⟨m + 1, by omega, by go_num, HM.out, hRn _ _ hRv (hQ.below _ hQ4)⟩
       case measure => simp [intOf]; omega
      ·have HM := Lib.hid (let ⟨i, hi, h⟩ := any_pair hany; Hpair.out m i Hs.out hlt2 hi h)
       go_wp2_with fail
       go_ret
       exact ⟨ret_int HM.out.symm, hQb _ hQ4⟩
     ·obtain rfl : m = k := by omega
      have HE := Lib.hid (Hok.out Hs.out Hm.out)
      go_wp2_with fail
      go_ret
      exact ⟨ret_int HE.out.symm, hRb _ hRv⟩
end Go.Proofs.YtjdgpgfiomnjkaaGreatDoor
namespace Go.Proofs.YtjdgpgfiomnjkaaGreatDoor
open Go.RowKit
set_option linter.unusedVariables false
set_option linter.unusedSimpArgs false
set_option linter.unusedSectionVars false
variable [Ghost]
set_option maxHeartbeats 400000 in
theorem isIn_any (x y : ByteArray) (w : World) (hx : x.size ≤ 140737488351232) (hy : y.size ≤ 140737488351232) :
  Calls Tryz.prog 235 #[.string x, .string y] w fun e w' => e = .returned (.bool (inPlace x y)) ∧ w = w' := by
 have Hd := Lib.hid (show inPlace x y = (decide (x.size < y.size) && ((y.extract 0 x.size).toList == x.toList) && (byt y x.size == 47)) from rfl)
 by_cases h : x.size < y.size
 ·have hix := fun w => index_str (P := Tryz.prog) 9 Tryz.underlying9 (s := y) x.size h w
  have hd : decide (x.size < y.size) = true := by simpa using h
  have HD := Lib.hid hd; clear hd
  cases h1 : ((y.extract 0 x.size).toList == x.toList) <;> cases h2 : (byt y x.size == 47)
  all_goals
   go_enter Tryz.func235, Tryz.ntmps235
   go_wp2
   go_ret
   exact ⟨by rw [Hd.out, HD.out, h1, h2]; rfl, rfl⟩
 ·have hd : decide (x.size < y.size) = false := by simpa using h
  have HD := Lib.hid hd; clear hd
  go_enter Tryz.func235, Tryz.ntmps235
  go_wp2
  go_ret
  exact ⟨by rw [Hd.out, HD.out]; rfl, rfl⟩
set_option maxRecDepth 100000 in
set_option maxHeartbeats 4000000 in
theorem checkRight_any (l : List Rf) (objs : List Obj) (v u : Value) (S S' : Nat → Prop) (w : World) (h : RefsV S w v l) (ho : StoreV S' w u objs) :
  Calls Tryz.prog 187 #[v, u] w fun e w' => e = .returned (.int .i64 (rightErr l objs)) ∧ Below w.heap.size w w' := by
 have h' := h
 obtain ⟨a, n, cap, HN, rfl, h1, h2, h3, h4, h5⟩ := h.open
 clear h
 obtain ⟨ua, uc, un, rfl⟩ : ∃ a cap n, u = .slice a n cap := let ⟨_, ⟨a, cap, hv, _⟩, _⟩ := ho; ⟨a, cap, _, hv⟩
 obtain ⟨R, hR, hR1, _⟩ := cls_plain w
 have hRb := hR.below
 have hRd := hR.drewN
 by_cases h8 : 8 < n
 ·have He := Lib.hid (rightErr_many (l := l) (objs := objs) (by rw [← HN.out]; exact h8))
  go_enter Tryz.func187, Tryz.ntmps187
  go_wp2_with fail
  go_ret
  exact ⟨ret_int He.out.symm, hRb _ hR1⟩
 ·have hl8 : l.length ≤ 8 := by rw [← HN.out]; omega
  have Href := Lib.hid (fun i e (h0 : scan (refErr l objs) i = 0) (hi : i < n) (he : refErr l objs i = e) (hne : e ≠ 0) => rightErr_ref hl8 h0 (by rw [← HN.out]; exact hi) he hne)
  have Hpair := Lib.hid (fun i k (h0 : scan (refErr l objs) n = 0) (hi : i < n) (hk : k < n) (he : inPlace (rf l i).name (rf l k).name = true) => rightErr_pair hl8 (by rw [← HN.out]; exact h0) (by rw [← HN.out]; exact hi) (by rw [← HN.out]; exact hk) he)
  have Hok := Lib.hid (fun (h0 : scan (refErr l objs) n = 0) (hp : ∀ i, i < n → ∀ k, k < n → inPlace (rf l i).name (rf l k).name = false) => rightErr_ok (l := l) (objs := objs) hl8 (by rw [← HN.out]; exact h0) (fun i k hi hk => hp i (by rw [HN.out]; exact hi) k (by rw [HN.out]; exact hk)))
  clear hl8
  go_enter Tryz.func187, Tryz.ntmps187
  go_wp2_with fail
  go_loopw [5] (fun i wr => ∃ k : Nat, k ≤ n ∧ i = .int .i64 k ∧ Hid (scan (refErr l objs) k = 0) ∧ In R wr) (fun i _ => n - (intOf i).toNat)
  case atStart => exact ⟨0, by omega, rfl, rfl, hR1⟩
  case round =>
   obtain ⟨k, hk, rfl, Hs, hRw⟩ := hrel
   clear hR1
   by_cases hlt : k < n
   ·obtain ⟨b, off, rfl, hb, k0, k1⟩ := h4 (by omega)
    have x0 := fun x hx => k0 k x hlt (hRb x hx)
    have x1 := fun x hx => k1 k x hlt (hRb x hx)
    have hnm := (h5 k hlt).2
    have Hk0 := Lib.hid k0
    clear h4 h5 k0 k1
    have Hre := Lib.hid (show refErr l objs k = if nameErr (rf l k).name ≠ 0 then nameErr (rf l k).name else if 0 < k ∧ strLt (rf l (k - 1)).name (rf l k).name = false then 4 else commitErr objs (rf l k).id from rfl)
    generalize hne : nameErr (rf l k).name = ne at *
    have Hna := Lib.hid (fun x => by have := checkName_any (rf l k).name x hnm; rw [hne] at this; exact this)
    clear hne hnm
    have hi1 : (0 : Int) ≤ (k : Int) := by omega
    have hi2 : (k : Int) < (n : Int) := by omega
    go_wp2_with fail
    refine (Hna.out _).mono ?_
    rintro e w2 ⟨rfl, rfl⟩
    go_upto_region 7 with fail
    go_cut [43] (fun s43 wx => s43 = .bool (decide (ne = 0 ∧ 0 < k ∧ strLt (rf l (k - 1)).name (rf l k).name = false)) ∧ ∃ x, x = wx ∧ In R x)
    case first =>
     cases hz : (ne == 0)
     ·have Hz := Lib.hid (show ne ≠ 0 by simpa using hz)
      go_quiet (fail)
      go_wp2_with fail
      go_meet
      exact ⟨by simp [Hz.out], _, rfl, hRd _ _ hRw⟩
     ·have Hz := Lib.hid (show ne = 0 by simpa using hz)
      by_cases hk0 : 0 < k
      ·have hkm : ∀ x, In R x → x.cell? ⟨b, off + (k - 1) * 2, none⟩ = some (.string (rf l (k - 1)).name) := fun x hx => Hk0.out (k - 1) x (by omega) (hRb x hx)
       have hi3 : (0 : Int) ≤ (k : Int) - 1 := by omega
       have hi4 : (1 : Int) ≤ (k : Int) := by omega
       have hi5 : (k : Int) - 1 < (n : Int) := by omega
       have hi6 : (0 : Int) < (k : Int) := by omega
       have hwr2 := wrap_in (n := (k : Int) - 1) (by omega)
       have htn : ((k : Int) - 1).toNat = k - 1 := by omega
       have Hst := Lib.hid (strLe (rf l k).name (rf l (k - 1)).name)
       have hle : ∀ (t : TypeId), binOp .leq t (.string (rf l k).name) (.string (rf l (k - 1)).name) = pure (.bool !strLt (rf l (k - 1)).name (rf l k).name) := fun t => by rw [binOp_string_leq, Hst.out]
       cases hq : strLt (rf l (k - 1)).name (rf l k).name
       all_goals
        rw [hq] at hle
        go_quiet (fail)
        go_wp2_with fail
        go_meet
        exact ⟨by rw [hq]; simp [Hz.out, hk0], _, rfl, hRd _ _ hRw⟩
      ·have hd : decide ((0 : Int) < (k : Int)) = false := by simp; omega
       go_quiet (fail)
       go_wp2_with fail
       go_meet
       exact ⟨by simp [hk0], _, rfl, hRd _ _ hRw⟩
    case rest =>
     obtain ⟨rfl, w3, rfl, hQ3⟩ := hcut
     have x13 := x1 _ hQ3
     clear hRw x0 x1
     by_cases hbad : ne = 0 ∧ 0 < k ∧ strLt (rf l (k - 1)).name (rf l k).name = false
     ·have hd : decide (ne = 0 ∧ 0 < k ∧ strLt (rf l (k - 1)).name (rf l k).name = false) = true := by simpa using hbad
      rw [hd]
      have HE := Lib.hid (Href.out k 4 Hs.out hlt (by rw [Hre.out, if_neg (by simp [hbad.1]), if_pos ⟨hbad.2.1, hbad.2.2⟩]) (by decide))
      clear hbad hd
      go_wp2
      go_ret
      exact ⟨ret_int HE.out.symm, hRb _ hQ3⟩
     ·have hd : decide (ne = 0 ∧ 0 < k ∧ strLt (rf l (k - 1)).name (rf l k).name = false) = false := by simpa using hbad
      rw [hd]
      clear hd
      have Hbad := Lib.hid hbad; clear hbad
      cases hz : (ne == 0)
      ·have hz2 : (ne != 0) = true := by show (!(ne == 0)) = true; rw [hz]; rfl
       have HE := Lib.hid (Href.out k ne Hs.out hlt (by rw [Hre.out, if_pos (by simpa using hz)]) (by simpa using hz))
       go_wp2
       go_ret
       exact ⟨ret_int HE.out.symm, hRb _ hQ3⟩
      ·have HE := Lib.hid (show refErr l objs k = commitErr objs (rf l k).id by
        have hne0 : ne = 0 := by simpa using hz
        rw [Hre.out, if_neg (by simp [hne0]), if_neg (fun h => Hbad.out ⟨hne0, h.1, h.2⟩)])
       go_wp2_with fail
       refine (checkCommit_any objs _ S' _ _ (ho.below (hRb _ hQ3))).mono ?_
       rintro e w4 ⟨rfl, rfl⟩
       by_cases hce : commitErr objs (rf l k).id = 0
       ·have hce' : (commitErr objs (rf l k).id != 0) = false := by simpa using hce
        have HN2 := Lib.hid (scan_next Hs.out (HE.out.trans hce))
        clear hce
        go_wp2_with fail
        go_roundw
        case rel => exact ⟨k + 1, by omega, by go_num, HN2.out, hQ3⟩
        case measure => simp [intOf]; omega
       ·have hce' : (commitErr objs (rf l k).id != 0) = true := by simpa using hce
        have HN2 := Lib.hid (Href.out k _ Hs.out hlt HE.out hce)
        clear hce
        go_wp2_with fail
        go_ret
        exact ⟨ret_int HN2.out.symm, hRb _ hQ3⟩
   ·obtain rfl : k = n := by omega
    go_wp2_with fail
    go_loopw [7] (fun i wr => ∃ m : Nat, m ≤ k ∧ i = .int .i64 m ∧ Hid (∀ i, i < m → ∀ j, j < k → inPlace (rf l i).name (rf l j).name = false) ∧ In R wr) (fun i _ => k - (intOf i).toNat)
    case atStart => exact ⟨0, by omega, rfl, fun i hi => absurd hi (by omega), hRw⟩
    case round =>
     obtain ⟨m, hm, rfl, Hm, hRv⟩ := hrel
     clear hRw
     obtain ⟨wo, rfl⟩ : ∃ wo : World, wo = wr := ⟨_, rfl⟩
     by_cases hlt2 : m < k
     ·go_wp2_with fail
      go_loopw [8] (fun i wr => ∃ j : Nat, j ≤ k ∧ i = .int .i64 j ∧ Hid (∀ i, i < j → inPlace (rf l m).name (rf l i).name = false) ∧ In R wr) (fun i _ => k - (intOf i).toNat)
      case atStart => exact ⟨0, by omega, rfl, fun i hi => absurd hi (by omega), hRv⟩
      case round =>
       obtain ⟨j, hj, rfl, Hj, hRu⟩ := hrel
       clear hRv
       by_cases hlt3 : j < k
       ·obtain ⟨b, off, rfl, hb, k0, k1⟩ := h4 (by omega)
        have x0 := fun x hx => k0 m x hlt2 (hRb x hx)
        have y0 := fun x hx => k0 j x hlt3 (hRb x hx)
        have Hin := Lib.hid (fun x => isIn_any (rf l m).name (rf l j).name x (h5 m hlt2).2 (h5 j hlt3).2)
        clear h4 h5 k0 k1
        have hi1 : (0 : Int) ≤ (m : Int) := by omega
        have hi2 : (m : Int) < (k : Int) := by omega
        have hi3 : (0 : Int) ≤ (j : Int) := by omega
        have hi4 : (j : Int) < (k : Int) := by omega
        cases hq : inPlace (rf l m).name (rf l j).name
        ·have He := Lib.hid hq
         rw [hq] at Hin
         go_wp2_with fail
         go_quiet ((go_at_call 235; exact quiet_same (Hin.out _)))
         have hRu2 := hRd _ nq hRu
         go_wp2_with fail
         go_roundw
         case rel => exact ⟨j + 1, by omega, by go_num, all_next Hj.out He.out, hRu2⟩
         case measure => simp [intOf]; omega
        ·have He := Lib.hid (Hpair.out m j Hs.out hlt2 hlt3 hq)
         rw [hq] at Hin
         go_wp2_with fail
         go_quiet ((go_at_call 235; exact quiet_same (Hin.out _)))
         have hRu2 := hRd _ nq hRu
         go_wp2_with fail
         go_ret
         exact ⟨ret_int He.out.symm, hRb _ hRu2⟩
       ·obtain rfl : j = k := by omega
        have HM := Lib.hid (all_next Hm.out Hj.out)
        go_wp2_with fail
        go_roundw
        case rel => exact ⟨m + 1, by omega, by go_num, HM.out, hRu⟩
        case measure => simp [intOf]; omega
     ·obtain rfl : m = k := by omega
      have HE := Lib.hid (Hok.out Hs.out Hm.out)
      go_wp2_with fail
      go_ret
      exact ⟨ret_int HE.out.symm, hRb _ hRv⟩
set_option maxHeartbeats 400000 in
theorem refsCheck_any (l : List Rf) (objs : List Obj) (v u : Value) (S S' : Nat → Prop) (w : World) (h : RefsV S w v l) (ho : StoreV S' w u objs) :
  Calls Tryz.prog 119 #[v, u] w fun e w' => e = .returned (.int .i64 (checkRefs l objs)) ∧ Below w.heap.size w w' := by
 obtain ⟨p, rfl⟩ := h.shape
 have ho' := ho
 obtain ⟨ua, uc, un, rfl⟩ : ∃ a cap n, u = .slice a n cap := let ⟨_, ⟨a, cap, hv, _⟩, _⟩ := ho; ⟨a, cap, _, hv⟩
 by_cases hz : checkStore objs = 0
 ·have Hr := Lib.hid (checkStore_rising hz)
  have Hd := Lib.hid (show checkRefs l objs = rightErr l objs by unfold checkRefs; rw [if_neg (by simp [hz])])
  have hz' : (checkStore objs != 0) = false := by simpa using hz
  clear hz
  go_enter Tryz.func119, Tryz.ntmps119
  go_wp2_with fail
  refine (storeCheck_any objs _ S' _ ho').mono ?_
  rintro e w2 ⟨rfl, hb2⟩
  go_wp2_with fail
  refine (right_any l objs _ _ S S' _ (h.below hb2) (ho.below hb2) Hr.out).mono ?_
  rintro e w3 ⟨rfl, hb3⟩
  go_wp2_with fail
  go_ret
  exact ⟨ret_int Hd.out.symm, below_next hb2 hb3⟩
 ·have Hd := Lib.hid (show checkRefs l objs = checkStore objs by unfold checkRefs; rw [if_pos hz])
  have hz' : (checkStore objs != 0) = true := by simpa using hz
  clear hz
  go_enter Tryz.func119, Tryz.ntmps119
  go_wp2_with fail
  refine (storeCheck_any objs _ S' _ ho').mono ?_
  rintro e w2 ⟨rfl, hb2⟩
  go_wp2_with fail
  go_ret
  exact ⟨ret_int Hd.out.symm, hb2⟩
set_option maxHeartbeats 400000 in
theorem checkRefs_any (l : List Rf) (objs : List Obj) (v u : Value) (S S' : Nat → Prop) (w : World) (h : RefsV S w v l) (ho : StoreV S' w u objs) :
  Calls Tryz.prog 136 #[v, u] w fun e w' => e = .returned (.int .i64 (checkRefs l objs)) ∧ Below w.heap.size w w' := by
 obtain ⟨p, rfl⟩ := h.shape
 have ho' := ho
 obtain ⟨ua, uc, un, rfl⟩ : ∃ a cap n, u = .slice a n cap := let ⟨_, ⟨a, cap, hv, _⟩, _⟩ := ho; ⟨a, cap, _, hv⟩
 by_cases hz : checkStore objs = 0
 ·have Hd := Lib.hid (show checkRefs l objs = rightErr l objs by unfold checkRefs; rw [if_neg (by simp [hz])])
  have hz' : (checkStore objs == 0) = true := by simpa using hz
  clear hz
  go_enter Tryz.func136, Tryz.ntmps136
  go_wp2_with fail
  refine (checkStore_any objs _ S' _ ho').mono ?_
  rintro e w2 ⟨rfl, hb2⟩
  go_wp2_with fail
  refine (checkRight_any l objs _ _ S S' _ (h.below hb2) (ho.below hb2)).mono ?_
  rintro e w3 ⟨rfl, hb3⟩
  go_wp2_with fail
  go_ret
  exact ⟨ret_int Hd.out.symm, below_next hb2 hb3⟩
 ·have Hd := Lib.hid (show checkRefs l objs = checkStore objs by unfold checkRefs; rw [if_pos hz])
  have hz' : (checkStore objs == 0) = false := by simpa using hz
  clear hz
  go_enter Tryz.func136, Tryz.ntmps136
  go_wp2_with fail
  refine (checkStore_any objs _ S' _ ho').mono ?_
  rintro e w2 ⟨rfl, hb2⟩
  go_wp2_with fail
  go_ret
  exact ⟨ret_int Hd.out.symm, hb2⟩
end Go.Proofs.YtjdgpgfiomnjkaaGreatDoor
namespace Go.Proofs.YtjdgpgfiomnjkaaGreatDoor
open Go.RowKit
set_option linter.unusedVariables false
set_option linter.unusedSimpArgs false
set_option linter.unusedSectionVars false
variable [Ghost]
def namesL : List Rf := [⟨⟨#[109, 97, 105, 110]⟩, 3⟩, ⟨⟨#[120, 47, 121]⟩, 5⟩]
def RetRefs (w w' : World) (e : Ending) (l : List Rf) : Prop := ∃ v, e = .returned v ∧ RefsV (fun b => w.heap.size ≤ b) w' v l ∧ Below w.heap.size w w'
theorem refs_new (w : World) (l : List Rf) (t : TypeId) (N : Nat) (hN : N = w.heap.size) (hl : l.length * 24 ≤ 140737488351232) (h : ∀ r ∈ l, I64 r.id ∧ r.name.size ≤ 140737488351232) :
  RefsV (fun b => b = N) (w.alloc (.cells (flat (fun i => [.string (rf l i).name, .int .i64 (rf l i).id]) l.length).toArray t)) (.slice (some ⟨N, 0, none⟩) l.length l.length) l :=
 ⟨sl_new w _ 2 24 _ t N hN (fun _ _ => rfl) hl (by omega), h⟩
set_option maxHeartbeats 400000 in
theorem names_any (w : World) : Calls Tryz.prog 65 #[] w fun e w' => RetRefs w w' e namesL := by
 go_enter Tryz.func65, Tryz.ntmps65
 go_wp2_with fail
 go_ret
 have h := refs_new w namesL 62 w.heap.size rfl (by decide) (by
  intro r hr
  simp only [namesL, List.mem_cons, List.not_mem_nil, or_false] at hr
  rcases hr with rfl | rfl <;> exact ⟨small64 _ (by decide), by decide⟩)
 exact ⟨_, rfl, h.weaken (fun b hb => by omega), (Below.refl _ _).alloc (Nat.le_refl _) _⟩
end Go.Proofs.YtjdgpgfiomnjkaaGreatDoor
