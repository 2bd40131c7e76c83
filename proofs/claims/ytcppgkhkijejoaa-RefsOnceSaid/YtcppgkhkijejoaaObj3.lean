/- Walks: package object, encoding; the reference's. -/
import Derived.Test.YtcppgkhkijejoaaObj2
import Derived.Test.YtcppgkhkijejoaaBytes
import Derived.Test.YtcppgkhkijejoaaMem2
namespace Go.Proofs.Ytcppgkhkijejoaa
open Go.RowKit
set_option linter.unusedVariables false
set_option linter.unusedSimpArgs false

theorem Try.infoByte : (Try.prog.info? 5).map (fun i => (i.zero, i.size, i.bytes)) = some (some (.int .u8 0), 1, 1) := by kernel_rfl

set_option maxHeartbeats 400000 in
theorem oneByte_any (n : Int) (w : World) :
    Calls Try.prog 58 #[.int .i64 n] w fun e w' => e = .returned (.string (strOfNums [b8 n])) ∧ Below w.heap.size w w' := by
  have kc := fun (W : World) (hc : W.cell? ⟨w.heap.size, 0, none⟩ = some (.int .u8 (b8 n))) (c : Nat) => run_convert_bytes_arg (P := Try.prog) W 74 5 Try.underlying74 Try.underlying5 w.heap.size 0 1 c [b8 n] rfl (one_byte hc) 9 Try.underlying9
  have hw := b8_wrap
  go_enter Try.func58, Try.ntmps58
  go_wp2
  go_ret
  exact ⟨rfl, (Below.refl _ _).alloc (Nat.le_refl _) _⟩
set_option maxHeartbeats 1000000 in
/-- the closure that puts numbers behind the bytes that are there -/
theorem put_any (xs : List Int) (v : Value) (S : Nat → Prop) (w : World) (bb : Nat) (bv : Value) (n : Nat) (ys : List Value) (hv : IntsV S w v xs) (hS : ∀ b, S b → b < w.heap.size ∧ b ≠ bb ∧ bv.ownBlock ≠ some b)
    (hx : xs.length ≤ 100000) (hn : n ≤ 100000) (hb : w.heap[bb]? = some (.cells #[bv] 74 (0, 0))) (ho : w.ownsRow bb 5 1 bv n ys) :
    Calls Try.prog 55 #[v, .pointer (some ⟨bb, 0, none⟩)] w fun e w' => e = .returned (.tuple #[]) ∧ ∃ bv', w'.heap[bb]? = some (.cells #[bv'] 74 (0, 0)) ∧
      w'.ownsRow bb 5 1 bv' (n + xs.length) (ys ++ xs.map fun x => .int .u8 (b8 x)) ∧ Below bb w w' := by
  obtain ⟨a, m, cap, HN, rfl, hc1, hc2, hc8, hc⟩ := hv.open
  obtain ⟨i0, hi, hz0, hz1, hz2⟩ := info_parts Try.infoByte
  have hbs := lt_of_block hb
  have hw8 := b8_wrap
  have hmx : m ≤ 100000 := by rw [HN.out]; exact hx
  have HS := Lib.hid hS; clear hS
  go_enter Try.func55, Try.ntmps55
  go_wp2
  go_loopw [7] (fun i wr => ∃ k : Nat, ∃ bv' : Value, k ≤ m ∧ i = .int .i64 k ∧ wr.heap[bb]? = some (.cells #[bv'] 74 (0, 0)) ∧ wr.ownsRow bb 5 1 bv' (n + k) (putTo ys xs k) ∧
      Upd (fun b => b = bb ∨ bv.ownBlock = some b) w wr ∧ (∀ g, bv'.ownBlock = some g → bv.ownBlock = some g ∨ w.heap.size ≤ g)) (fun i _ => m - (intOf i).toNat)
  case atStart => exact ⟨0, bv, by omega, rfl, hb, by rw [putTo_zero]; exact ho, Upd.refl _ _, fun g h => .inl h⟩
  case round =>
    obtain ⟨k, bv', hk, rfl, hbr, hor, hup, hgr⟩ := hrel
    have Hgr := Lib.hid hgr; clear hgr
    have hcb := cell_of_one hbr
    have hsz := hup.size
    by_cases hlt : k < m
    · obtain ⟨b, off, rfl, hSb, hcell⟩ := hc (by omega)
      have hck : wr.cell? ⟨b, off + k, none⟩ = some (.int .i64 (nth xs k)) :=
        hup.cell (hcell k w hlt (Below.refl _ _)) (fun h => by rcases h with h | h; exact (HS.out b hSb).2.1 h; exact (HS.out b hSb).2.2 h)
      clear hcell hc
      go_wp2_with (at_builtin; refine wpList_append_own_at _ rfl _ _ 74 rfl bb 5 i0 (.int .u8 0) 1 1 Try.underlying74 hi hz0 hz1 hz2 rfl (by decide) _ _ _ rfl (hor.alloc _) ⟨wr.heap.size, 0, none⟩ 1 1 [.int .u8 (b8 (nth xs k))] rfl rfl ?c1 ?c2 ?c3 ?c4 ?c5 ?_)
      case c1 => exact cell_one_new _ _ _
      case c2 => intro u hu; simp at hu; subst hu; rfl
      case c3 => unfold maxLen; omega
      case c4 => omega
      case c5 => simp; omega
      · intro v' w1 hown' hgrow _ hat
        have R := held_step (T := fun b => b = bb ∨ bv.ownBlock = some b) (by decide) hbs (.inl rfl) (fun g h => .inr h) hbr hor hup Hgr.out hown' hgrow hat
        obtain ⟨a', c', hv'⟩ := own_shape hown'
        clear hgrow hat hor hcb
        subst hv'
        obtain ⟨hc1', hf1', hR⟩ := R
        have HR := Lib.hid hR; clear hR hown'
        have hst := hup.size
        go_wp2
        go_roundw
        case rel =>
          have h2 := HR.out.2.1
          rw [putTo_next (by rw [← HN.out]; exact hlt)] at h2
          exact ⟨k + 1, _, by omega, by go_num, HR.out.1, h2, HR.out.2.2⟩
        case measure => simp [intOf]; omega
    · obtain rfl : k = m := by omega
      go_wp2
      go_end0
      refine ⟨rfl, bv', hbr, ?_, hup.below (Nat.le_of_lt hbs) (fun b h => ?_)⟩
      · rw [← HN.out, ← putTo_all ys xs, ← HN.out]; exact hor
      · rcases h with h | h
        · omega
        · exact (ho.lt b h).1
end Go.Proofs.Ytcppgkhkijejoaa
