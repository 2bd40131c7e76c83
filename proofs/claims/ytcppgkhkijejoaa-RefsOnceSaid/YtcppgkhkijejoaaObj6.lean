/- Walks: the reference's ObjectBytes. -/
import Derived.Test.YtcppgkhkijejoaaObj5
namespace Go.Proofs.Ytcppgkhkijejoaa
open Go.RowKit
set_option linter.unusedVariables false
set_option linter.unusedSimpArgs false

theorem ret_str {s s' : ByteArray} (hs : s = s') : Ending.returned (.string s) = .returned (.string s') := by rw [hs]

theorem encB_end (o : Obj) : strOfNums (encTo o o.links.length) ++ strOfNums [b8 (o.text.size : Int)] ++ o.text = encB o := by
  have h : strOfNums (encTo o o.links.length) ++ strOfNums [b8 (o.text.size : Int)] ++ strOfNums (strN o.text) = encB o := by
    rw [str_append, str_append, encTo_end]; rfl
  rwa [str_strN] at h

set_option maxHeartbeats 1000000 in
theorem objectBytes_any (o : Obj) (lv : Value) (S : Nat → Prop) (w : World) (ho : ObjIs S w o lv) (hz : checkObj o = 0) :
    Calls Try.prog 22 #[.agg #[.int .i64 o.id, .int .i64 o.kind, lv, .string o.text]] w fun e w' => e = .returned (.string (encB o)) ∧ Below w.heap.size w w' := by
  obtain ⟨hid, hki, hl4, ht8, hle⟩ := checkObj_ok hz
  clear hle hz
  obtain ⟨a, n, cap, HN, rfl, hc1, hc2, hc8, hc⟩ := ho.1.open
  have hn4 : n ≤ 4 := by rw [HN.out]; exact hl4
  obtain ⟨R, hR, hR1, hx0, hx1, hx2, hx3⟩ := cls_box4 w (.int .i64 o.id) (.int .i64 o.kind) (.slice a n cap) (.string o.text) 24
  have hRb := hR.below
  have hRn := hR.next
  have hRd := hR.drew
  have hRg := cls_grown hR
  have hone := fun (n : Int) => strOfNums_size [b8 n]
  have Hz := Lib.hid (show strOfNums [b8 o.id] ++ strOfNums [b8 o.kind] ++ strOfNums [b8 (n : Int)] = strOfNums (encTo o 0) by rw [HN.out]; exact encTo_zero o)
  go_enter Try.func22, Try.ntmps22
  go_wp2_with fail
  refine wp_region_quiet_below (by kernel_rfl) (by kernel_rfl) ?_
  repeat (quiet_step (exact Calls.regrown_of (oneByte_any _ _)))
  refine wpQuiet_nil ?_
  intro _ hw'
  obtain ⟨⟨dq, osq⟩, hw''⟩ := hw'
  subst hw''
  have hR2 := hRg _ dq osq hR1
  generalize Go.Sort.grow (redrawn (w.alloc (.cells #[.int .i64 o.id, .int .i64 o.kind, .slice a n cap, .string o.text] 24)) dq) osq = w2 at *
  clear hR1
  try rw [Hz.out]
  go_wp2
  go_loopw [3, 4] (fun s i wr => ∃ k : Nat, k ≤ n ∧ i = .int .i64 k ∧ s = .string (strOfNums (encTo o k)) ∧ In R wr) (fun _ i _ => n - (intOf i).toNat)
  case atStart => exact ⟨0, by omega, rfl, by first | rw [Hz.out] | rw [← Hz.out], hR2⟩
  case round =>
    obtain ⟨k, hk, rfl, rfl, hRw⟩ := hrel
    clear hR2
    have hsl := strOfNums_size (encTo o k)
    have hel := encTo_length (o := o) (k := k) (by rw [← HN.out]; exact hk)
    rw [hel] at hsl
    clear hel
    by_cases hlt : k < n
    · obtain ⟨b, off, rfl, hb, hcell⟩ := hc (by omega)
      have hck : ∀ x, In R x → x.cell? ⟨b, off + k, none⟩ = some (.int .i64 (nth o.links k)) := fun x hx => hcell k x hlt (hRb x hx)
      clear hc hcell
      have Hs := Lib.hid (show strOfNums (encTo o k) ++ strOfNums [b8 (nth o.links k)] = strOfNums (encTo o (k + 1)) by rw [str_append, encTo_next (by rw [← HN.out]; exact hlt)])
      go_wp2_with (go_at_call 58; refine (oneByte_any _ _).mono ?_; rintro e w3 ⟨rfl, hb3⟩; have hR3 := hRn _ _ hRw hb3)
      go_roundw
      case rel => exact ⟨k + 1, by omega, by go_num, by rw [Hs.out], hR3⟩
      case measure => simp [intOf]; omega
    · obtain rfl : k = n := by omega
      have Hs := Lib.hid (encB_end o)
      rw [← HN.out] at Hs
      have n1 : ¬ 9223372036854775807 < 3 + k + 1 := by omega
      have n2 : ¬ 9223372036854775807 < 3 + k + 1 + o.text.size := by omega
      go_wp2_with fail
      refine wp_region_quiet_below (by kernel_rfl) (by kernel_rfl) ?_
      repeat (quiet_step (exact Calls.regrown_of (oneByte_any _ _)))
      refine wpQuiet_nil ?_
      intro _ hw'
      obtain ⟨⟨dq, osq⟩, hw''⟩ := hw'
      subst hw''
      go_wp2
      go_ret
      exact ⟨ret_str Hs.out, hRb _ (hRg _ dq osq hRw)⟩
end Go.Proofs.Ytcppgkhkijejoaa
