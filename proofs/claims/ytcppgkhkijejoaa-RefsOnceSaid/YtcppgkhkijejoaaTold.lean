/- Walks: package object: told: a text that ends too soon is given up by a panic, which is recovered. -/
import Derived.Test.YtcppgkhkijejoaaRead2
import Derived.Recover
import Derived.Defers
namespace Go.Proofs.Ytcppgkhkijejoaa
open Go.RowKit
set_option linter.unusedVariables false
set_option linter.unusedSimpArgs false

theorem told_idle (p0 p1 p2 : Addr) (w : World) :
    CallsD Try.prog 76 #[.pointer (some p0), .pointer (some p1), .pointer (some p2)] .returning w fun e u' w' => e = .returned (.tuple #[]) ∧ u' = .returning ∧ w' = w := by
  refine callsD_of_wpS Try.func76 rfl fun c₀ cs hu => ?_
  apply wpS_seq
  apply wpS_region
  simp [wpOpsS, go_sem, recoverD, hu, Try.ntmps76, Exit.thenS]
  refine wpS_of_wp (wp_mono (Q := fun e a' w' => (e = .normal ∨ e = .ret) ∧ a'.defers = [] ∧ w' = w) ?_ ?_)
  · simp only [Array.replicate_succ, Array.replicate_zero, List.push_toArray, List.setIfInBounds_toArray, List.set_cons_zero, List.set_cons_succ, List.append_toArray, List.nil_append, List.cons_append]
    go_wp2
  · rintro e a' w' ⟨he, hd, rfl⟩
    have hc : c₀ :: cs = { c₀ with mode := .returning } :: cs := by cases c₀; simp_all
    rcases he with rfl | rfl
    · exact ⟨hd, _, hc, _, results_none rfl _ _ _, rfl, rfl, rfl⟩
    · exact ⟨hd, _, hc, _, results_none rfl _ _ _, rfl, rfl, rfl⟩

/-- what the deferred closure leaves -/
def toldWorld (b0 b1 b2 : Nat) (w : World) : World :=
  ((((((w.setCell ⟨b0, 0, none⟩ (.int .i64 0)).setCell ⟨b0, 1, none⟩ (.int .i64 0)).setCell ⟨b0, 2, none⟩ (.slice none 0 0)).setCell ⟨b0, 3, none⟩ (.string ⟨#[]⟩)).setCell ⟨b1, 0, none⟩ (.int .i64 0)).setCell ⟨b2, 0, none⟩ (.bool false)).alloc (.cells #[] 95)

theorem toldWorld_is {b0 b1 b2 : Nat} {w : World} {v0 v1 v2 v3 m k : Value}
    (h0 : w.heap[b0]? = some (.cells #[v0, v1, v2, v3] 24 (0, 0))) (h1 : w.heap[b1]? = some (.cells #[m] 3 (0, 0))) (h2 : w.heap[b2]? = some (.cells #[k] 4 (0, 0))) (h01 : b0 < b1) (h12 : b1 < b2) :
    (toldWorld b0 b1 b2 w).heap[b0]? = some (.cells #[.int .i64 0, .int .i64 0, .slice none 0 0, .string ⟨#[]⟩] 24 (0, 0)) ∧ (toldWorld b0 b1 b2 w).heap[b1]? = some (.cells #[.int .i64 0] 3 (0, 0)) ∧
      (toldWorld b0 b1 b2 w).heap[b2]? = some (.cells #[.bool false] 4 (0, 0)) ∧ Upd (fun b => b = b0 ∨ b = b1 ∨ b = b2) w (toldWorld b0 b1 b2 w) := by
  have s0 := lt_of_block h0
  have s1 := lt_of_block h1
  have s2 := lt_of_block h2
  have u : Upd (fun b => b = b0 ∨ b = b1 ∨ b = b2) w (toldWorld b0 b1 b2 w) :=
    Upd.alloc (Upd.setCell (Upd.setCell (Upd.setCell (Upd.setCell (Upd.setCell (Upd.setCell (Upd.refl _ _) (fun _ => .inl rfl) _) (fun _ => .inl rfl) _) (fun _ => .inl rfl) _) (fun _ => .inl rfl) _) (fun _ => .inr (.inl rfl)) _) (fun _ => .inr (.inr rfl)) _) _
  refine ⟨?_, ?_, ?_, u⟩
  · unfold toldWorld
    rw [Below.heap_alloc _ _ _ (by simp [World.setCell]; omega), Below.heap_setCell _ _ _ _ (by simp; omega), Below.heap_setCell _ _ _ _ (by simp; omega)]
    exact block_setCell (j := 3) (block_setCell (j := 2) (block_setCell (j := 1) (block_setCell (j := 0) h0 _) _) _) _
  · unfold toldWorld
    rw [Below.heap_alloc _ _ _ (by simp [World.setCell]; omega), Below.heap_setCell _ _ _ _ (by simp; omega)]
    refine block_setCell (j := 0) (cs := #[m]) ?_ _
    rw [Below.heap_setCell _ _ _ _ (by simp; omega), Below.heap_setCell _ _ _ _ (by simp; omega), Below.heap_setCell _ _ _ _ (by simp; omega), Below.heap_setCell _ _ _ _ (by simp; omega)]
    exact h1
  · unfold toldWorld
    rw [Below.heap_alloc _ _ _ (by simp [World.setCell]; omega)]
    refine block_setCell (j := 0) (cs := #[k]) ?_ _
    rw [Below.heap_setCell _ _ _ _ (by simp; omega), Below.heap_setCell _ _ _ _ (by simp; omega), Below.heap_setCell _ _ _ _ (by simp; omega), Below.heap_setCell _ _ _ _ (by simp; omega), Below.heap_setCell _ _ _ _ (by simp; omega)]
    exact h2

theorem assert_short (w : World) : (Instr.typeAssert (.iface 95 (.agg #[])) 20 95 true).run Try.prog w = .ok (.tuple #[.agg #[], .bool true]) w := by kernel_rfl

set_option maxRecDepth 100000 in
set_option maxHeartbeats 1000000 in
theorem told_caught (b0 b1 b2 : Nat) (w : World) (v0 v1 v2 v3 m k : Value)
    (h0 : w.heap[b0]? = some (.cells #[v0, v1, v2, v3] 24 (0, 0))) (h1 : w.heap[b1]? = some (.cells #[m] 3 (0, 0))) (h2 : w.heap[b2]? = some (.cells #[k] 4 (0, 0))) (h01 : b0 < b1) (h12 : b1 < b2) :
    CallsD Try.prog 76 #[.pointer (some ⟨b0, 0, none⟩), .pointer (some ⟨b1, 0, none⟩), .pointer (some ⟨b2, 0, none⟩)] (.panicking short) w fun e u' w' =>
      e = .returned (.tuple #[]) ∧ u' = .panicking [{ v := .iface 95 (.agg #[]), recovered := true }] ∧
      w'.heap[b0]? = some (.cells #[.int .i64 0, .int .i64 0, .slice none 0 0, .string ⟨#[]⟩] 24 (0, 0)) ∧ w'.heap[b1]? = some (.cells #[.int .i64 0] 3 (0, 0)) ∧
      w'.heap[b2]? = some (.cells #[.bool false] 4 (0, 0)) ∧ Upd (fun b => b = b0 ∨ b = b1 ∨ b = b2) w w' := by
  refine callsD_of_wpS Try.func76 rfl fun c₀ cs hu => ?_
  apply wpS_seq
  apply wpS_region
  unfold short at hu
  simp [wpOpsS, go_sem, recoverD, hu, Try.ntmps76, Exit.thenS]
  have s0 := lt_of_block h0
  have s1 := lt_of_block h1
  have s2 := lt_of_block h2
  have c0 := block_cell (j := 0) h0 rfl
  have c1 := block_cell (j := 1) h0 rfl
  have c2 := block_cell (j := 2) h0 rfl
  have c3 := block_cell (j := 3) h0 rfl
  have f0 := block_free (j := 0) h0
  have f1 := block_free (j := 1) h0
  have f2 := block_free (j := 2) h0
  have f3 := block_free (j := 3) h0
  have d1 := block_cell (j := 0) h1 rfl
  have g1 := block_free (j := 0) h1
  have d2 := block_cell (j := 0) h2 rfl
  have g2 := block_free (j := 0) h2
  have hta := assert_short
  have n1 : ¬ b0 = b1 := by omega
  have n2 : ¬ b0 = b2 := by omega
  have n3 : ¬ b1 = b2 := by omega
  have n4 : ¬ b1 = b0 := by omega
  have n5 : ¬ b2 = b0 := by omega
  have n6 : ¬ b2 = b1 := by omega
  have H0 := Lib.hid h0
  have H1 := Lib.hid h1
  have H2 := Lib.hid h2
  have Hu := Lib.hid hu
  clear h0 h1 h2 hu
  refine wpS_of_wp (wp_mono (Q := fun e a' w' => (e = .normal ∨ e = .ret) ∧ a'.defers = [] ∧ w' = toldWorld b0 b1 b2 w) ?_ ?_)
  · simp only [Array.replicate_succ, Array.replicate_zero, List.push_toArray, List.setIfInBounds_toArray, List.set_cons_zero, List.set_cons_succ, List.append_toArray, List.nil_append, List.cons_append]
    go_wp2
    rfl
  · rintro e a' w' ⟨he, hd, rfl⟩
    have hT := toldWorld_is H0.out H1.out H2.out h01 h12
    rcases he with rfl | rfl
    · exact ⟨hd, _, rfl, _, results_none rfl _ _ _, rfl, rfl, hT⟩
    · exact ⟨hd, _, rfl, _, results_none rfl _ _ _, rfl, rfl, hT⟩

end Go.Proofs.Ytcppgkhkijejoaa
