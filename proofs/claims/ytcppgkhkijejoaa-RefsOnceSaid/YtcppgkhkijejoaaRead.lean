/- Walks: package object, the reader. -/
import Derived.Test.YtcppgkhkijejoaaObj6
import Derived.Test.YtcppgkhkijejoaaStr
namespace Go.Proofs.Ytcppgkhkijejoaa
open Go.RowKit
set_option linter.unusedVariables false
set_option linter.unusedSimpArgs false

def short : List PanicEntry := [{ v := .iface 95 (.agg #[]), recovered := false }]

set_option maxHeartbeats 1000000 in
theorem take_ok (s : ByteArray) (k n : Nat) (m : Int) (hm : m = n) (bb : Nat) (w : World) (hb : w.heap[bb]? = some (.cells #[.string (rest s k)] 99 (0, 0))) (hk : k + n ≤ s.size) (hs : s.size ≤ 9223372036854775807) :
    Calls Try.prog 96 #[.pointer (some ⟨bb, 0, none⟩), .int .i64 m] w fun e w' => e = .returned (.string (sub s k n)) ∧
      w'.heap[bb]? = some (.cells #[.string (rest s (k + n))] 99 (0, 0)) ∧ Upd (fun b => b = bb) w w' := by
  have hc := cell_of_one hb
  have hf := free_of_one hb
  have hst := one_setCell (u := .string (rest s (k + n))) hb
  have Hst := Lib.hid hst
  have hz := rest_size (s := s) (k := k) (by omega)
  have h1 := rest_head hk
  have h2 := rest_tail hk
  rw [hz] at h2
  have hmn : m.toNat = n := by omega
  have hm0 : 0 ≤ m := by omega
  have hm1 : m ≤ (s.size : Int) - k := by omega
  have Hm := Lib.hid hm
  clear hm hst hb
  go_enter Try.func96, Try.ntmps96
  go_wp2
  go_ret
  exact ⟨rfl, Hst.out, Upd.setCell (T := fun b => b = bb) (Upd.refl _ _) (fun _ => rfl) _⟩

set_option maxHeartbeats 1000000 in
theorem take_dies (s : ByteArray) (k n : Nat) (m : Int) (hm : m = n) (bb : Nat) (w : World) (hb : w.heap[bb]? = some (.cells #[.string (rest s k)] 99 (0, 0))) (hk : s.size < k + n) (hk' : k ≤ s.size) (hs : s.size ≤ 9223372036854775807) :
    Calls Try.prog 96 #[.pointer (some ⟨bb, 0, none⟩), .int .i64 m] w fun e w' => e = .panicked short ∧ w = w' := by
  have hc := cell_of_one hb
  have hz := rest_size (s := s) (k := k) hk'
  have hm1 : (s.size : Int) - k < m := by omega
  have hkk : (k : Int) ≤ s.size := by omega
  clear hm hb
  go_enter Try.func96, Try.ntmps96
  go_wp2
  exact ⟨rfl, rfl, rfl⟩

set_option maxHeartbeats 1000000 in
theorem one_ok (s : ByteArray) (k : Nat) (bb : Nat) (w : World) (hb : w.heap[bb]? = some (.cells #[.string (rest s k)] 99 (0, 0))) (hk : k < s.size) (hs : s.size ≤ 9223372036854775807) :
    Calls Try.prog 95 #[.pointer (some ⟨bb, 0, none⟩)] w fun e w' => e = .returned (.int .i64 (byt s k)) ∧
      w'.heap[bb]? = some (.cells #[.string (rest s (k + 1))] 99 (0, 0)) ∧ Upd (fun b => b = bb) w w' := by
  have hix := fun w => index_sub (P := Try.prog) 9 Try.underlying9 (s := s) (k := k) (n := 1) (by omega) 0 (by omega) w
  have hby := byt_range s k
  go_enter Try.func95, Try.ntmps95
  go_wp2_with (go_at_call 96; refine (take_ok s k 1 _ (by rfl) bb _ hb (by omega) hs).mono ?_; rintro e w' ⟨rfl, h1, h2⟩; have H1 := Lib.hid h1; have H2 := Lib.hid h2; clear h1 h2)
  go_ret
  exact ⟨rfl, H1.out, H2.out⟩

set_option maxHeartbeats 1000000 in
theorem one_dies (s : ByteArray) (k : Nat) (bb : Nat) (w : World) (hb : w.heap[bb]? = some (.cells #[.string (rest s k)] 99 (0, 0))) (hk : s.size < k + 1) (hk' : k ≤ s.size) (hs : s.size ≤ 9223372036854775807) :
    Calls Try.prog 95 #[.pointer (some ⟨bb, 0, none⟩)] w fun e w' => e = .panicked short ∧ w = w' := by
  go_enter Try.func95, Try.ntmps95
  go_wp2_with (go_at_call 96; refine (take_dies s k 1 _ (by rfl) bb _ hb (by omega) (by omega) hs).mono ?_; rintro e w' ⟨rfl, rfl⟩)
  exact ⟨rfl, rfl, rfl⟩

end Go.Proofs.Ytcppgkhkijejoaa
