
/- Proves Rows.WalkTipsUptoSaid: for any objects and any two lists of tips that are together of bulk at most 1048576 the law WalkTips returns true, and all three read behind the call as they read before. -/
import Derived.Test.YtcppgkhkijejoaaWalkTips
import Derived.Test.YtcppgkhkijejoaaOpen
import Derived.JoinedCond
import Derived.Deep.CondSized
import Derived.Test.YtcppgkhkijejoaaOpen2
namespace Go.Proofs.Ytcppgkhkijejoaa
open Go.ChangeShapes Go.WideShapes Go.ChangeAt Go.RowKit
set_option linter.unusedVariables false

theorem bulk_one {H : Type} (d : DataW H) : 1 ≤ Rows.uptoBulk d := by
  cases d with
  | lit l => cases l <;> simp [Rows.uptoBulk]
  | nil => simp [Rows.uptoBulk]
  | ptr d => simp [Rows.uptoBulk]
  | slice elems spare => simp [Rows.uptoBulk]
  | agg parts => simp [Rows.uptoBulk]
  | iface t d => simp [Rows.uptoBulk]
  | map entries => simp [Rows.uptoBulk]
  | held h => simp [Rows.uptoBulk]
theorem bulk_length {H : Type} (l : List (DataW H)) : l.length ≤ Rows.uptoBulkAll l := by
  induction l with
  | nil => simp [Rows.uptoBulkAll]
  | cons x r ih => have := bulk_one x; simp only [Rows.uptoBulkAll, List.length_cons]; omega

/-- the bound, at a slice of numbers -/
theorem ints_bulk {H : Type} {enc : TypeId × Value → H} {W : World} {base fuel : Nat} {v : Value} {x : DataW H × List MemPlace} (hf : DataW.trod enc Try.prog W base (fun _ => true) true fuel 22 [v] = some x) {a : Option Addr} {n c : Nat}
    (hv : v = .slice a n c) : n ≤ Rows.uptoBulk x.1 := by
  rcases open_ints Try.underlying22 Try.underlying3 cells_int hf with ⟨hcs, _⟩ | ⟨a', len, cap, zs, hcs, _, hl, hm, hz, hx, _, _⟩
  · simp at hcs; subst hcs; cases hv; omega
  · simp at hcs; subst hcs; cases hv
    subst hx
    simp only [if_true] at hz
    have h1 := bulk_length (lits (H := H) .i64 (zs.take n))
    simp only [Rows.uptoBulk]
    have h2 : (lits (H := H) .i64 (zs.take n)).length = n := by simp only [lits, List.length_map, List.length_take]; omega
    omega

set_option maxRecDepth 100000 in
theorem walkTips_lifted (os : Os) (started : os.Started) (H : Type) (enc : TypeId × Value → H) (F : Stop.Interp) :
    ReturnsInHanded {} Try.checked os 8 .any ((Rows.OpenSpec.upto Rows.walkTipsSpec).pre6 enc Try.prog Try.f8 Rows.walkTipsUptoRow.domain false) (((Rows.OpenSpec.upto Rows.walkTipsSpec).at F).post enc Try.prog Try.f8 false true false false) := by
  refine returnsInHanded_of_cond_sized (C := Try.checked) (s := Rows.OpenSpec.upto Rows.walkTipsSpec) (k := Rows.uptoSmall) rfl row_own started (by kernel_rfl) Try.func8
    (OpenSpec.witness (enc := enc) (C := Try.checked) (s := Rows.OpenSpec.upto Rows.walkTipsSpec) (k := Rows.uptoSmall) rfl false ⟨#[], #[.slice none 0 0, .slice none 0 0, .slice none 0 0], []⟩ 8 (by kernel_rfl) (by kernel_rfl) (by kernel_rfl)
      (x := ([.nil, .nil, .nil], [], [])) (by kernel_rfl) rfl (by kernel_rfl)) ?_
  intro W base args ds gs before hval0 hW _ hk hsz0 _
  have hsz : (DataW.weightsEach Try.prog (Try.f8.params.toList ++ Rows.walkTipsSpec.plain.varTypes Try.prog) (ds ++ gs)).all (· ≤ reachBytes) = true := hsz0
  clear hsz0
  have hval : ∀ (j : Nat) t v, Try.f8.params[j]? = some t → args[j]? = some v → Value.okWide Try.prog W .any base t v := hval0
  have hW' := hW
  obtain ⟨p, q, hA0, hV, rfl, _, _⟩ := hW
  have hA : DataW.TrodAll enc Try.prog W 0 (fun _ => true) true Try.f8.params.toList args.toList ds p := hA0
  rw [Try.params8] at hA hval hsz
  obtain ⟨v0, v1, v2, d0, d1, d2, p0, p1, p2, rfl, rfl, rfl, h0, h1, h2⟩ := trodAll_three hA
  obtain ⟨rfl, rfl⟩ := trodVars_none hV
  clear hA0 hval0
  simp only [List.append_nil] at hW'
  have hlt0 : ∀ x ∈ p0, x.block < W.heap.size := fun x hx => hW'.lt x (by simp [hx])
  have hlt1 : ∀ x ∈ p1, x.block < W.heap.size := fun x hx => hW'.lt x (by simp [hx])
  have hlt2 : ∀ x ∈ p2, x.block < W.heap.size := fun x hx => hW'.lt x (by simp [hx])
  obtain ⟨a0, n0, c0, rfl⟩ := okWide_slice Try.underlying37 (hval 0 37 v0 rfl rfl)
  obtain ⟨x0, hx0⟩ := h0.elim fun fuel hf => open_store (x := (d0, p0)) hf (fits_each hsz 0 rfl rfl)
  obtain ⟨a1, n1, c1, rfl⟩ := okWide_slice Try.underlying22 (hval 1 22 v1 rfl rfl)
  obtain ⟨x1, hx1⟩ := h1.elim fun fuel hf => open_intsV (x := (d1, p1)) hf (fits_each hsz 1 rfl rfl)
  obtain ⟨a2, n2, c2, rfl⟩ := okWide_slice Try.underlying22 (hval 2 22 v2 rfl rfl)
  obtain ⟨x2, hx2⟩ := h2.elim fun fuel hf => open_intsV (x := (d2, p2)) hf (fits_each hsz 2 rfl rfl)
  have hk' : Rows.uptoBulkAll [d0, d1, d2] ≤ 1048576 := of_decide_eq_true hk
  simp only [Rows.uptoBulkAll] at hk'
  have hb1 : x1.length ≤ 1048576 := by
    obtain ⟨q1, e1⟩ := hx1.shape
    have := h1.elim fun fuel hf => ints_bulk (x := (d1, p1)) hf e1
    simp only at this; omega
  have hb2 : x2.length ≤ 1048576 := by
    obtain ⟨q2, e2⟩ := hx2.shape
    have := h2.elim fun fuel hf => ints_bulk (x := (d2, p2)) hf e2
    simp only at this; omega
  refine (walkTips_any x0 x1 x2 _ _ _ _ _ _ W hx0 hx1 hx2 ⟨by omega, by omega⟩).mono fun e W' ⟨he, hnx⟩ => ?_
  subst he
  have harg0 := Below.trod row_laidOut (by kernel_rfl) (of_decide_eq_true (by kernel_rfl)) h0 hnx hlt0
  have harg1 := Below.trod row_laidOut (by kernel_rfl) (of_decide_eq_true (by kernel_rfl)) h1 hnx hlt1
  have harg2 := Below.trod row_laidOut (by kernel_rfl) (of_decide_eq_true (by kernel_rfl)) h2 hnx hlt2
  refine ⟨_, rfl, _, _, _, [], p0 ++ (p1 ++ (p2 ++ [])), [], hW', trodAll_mk1 (shut_bool Try.underlying4 true), (trodAll_cons_mk harg0 (trodAll_cons_mk harg1 (trodAll_cons_mk harg2 trodAll_mk0))), rfl, hnx.frame _, fun h => by cases h⟩

theorem walkTips_holds : Rows.WalkTipsUptoSaid :=
  OpenClaim.holds_of_cond 8 Try.f8 rfl rfl rfl rfl rfl rfl rfl ⟨rfl, rfl, rfl, rfl, rfl⟩ rfl rfl rfl rfl rfl (by kernel_rfl) Try.func8 (by kernel_rfl)
    (of_decide_eq_true (by kernel_rfl)) (by unfold Func.isWrapper; first | (rw [if_pos (by decide +kernel)]; kernel_rfl) | (rw [if_neg (by decide +kernel)]; exact ⟨rfl, rfl⟩))
    (fun os started H enc _ F => walkTips_lifted os started H enc F)

end Go.Proofs.Ytcppgkhkijejoaa
