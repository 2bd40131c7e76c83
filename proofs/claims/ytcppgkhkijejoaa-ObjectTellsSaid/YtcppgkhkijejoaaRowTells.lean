/- Proves Rows.ObjectTellsSaid: for any object and any string the law ObjectTells returns true, and both read behind the call as they read before. -/
import Derived.Test.YtcppgkhkijejoaaTells
import Derived.Test.YtcppgkhkijejoaaOpen
namespace Go.Proofs.Ytcppgkhkijejoaa
open Go.ChangeShapes Go.WideShapes Go.ChangeAt Go.RowKit
set_option linter.unusedVariables false

set_option maxRecDepth 100000 in
theorem objectTells_lifted (os : Os) (started : os.Started) (H : Type) (enc : TypeId × Value → H) :
    ReturnsInHanded {} Try.checked os 4 .any (Rows.objectTellsSpec.pre6 enc Try.prog Try.f4 Rows.objectTellsRow.domain false) (Rows.objectTellsSpec.post enc Try.prog Try.f4 false true false false) := by
  refine returnsInHanded_of_change_sized (C := Try.checked) row_own started (by kernel_rfl) Try.func4
    (ChangeSpec.witness6 (enc := enc) (C := Try.checked) false ⟨#[], #[.agg #[.int .i64 0, .int .i64 0, .slice none 0 0, .string ⟨#[]⟩], .string ⟨#[]⟩], []⟩ 8 (by kernel_rfl) (by kernel_rfl) (by kernel_rfl) (by kernel_rfl)) ?_
  intro W base args ds gs before hval0 hW _ hsz0 _
  have hsz : (DataW.weightsEach Try.prog (Try.f4.params.toList ++ Rows.objectTellsSpec.plain.varTypes Try.prog) (ds ++ gs)).all (· ≤ reachBytes) = true := hsz0
  clear hsz0
  have hval : ∀ (j : Nat) t v, Try.f4.params[j]? = some t → args[j]? = some v → Value.okWide Try.prog W .any base t v := hval0
  have hW' := hW
  obtain ⟨p, q, hA0, hV, rfl, _, _⟩ := hW
  have hA : DataW.TrodAll enc Try.prog W 0 (fun _ => true) true Try.f4.params.toList args.toList ds p := hA0
  rw [Try.params4] at hA hval hsz
  obtain ⟨v0, v1, d0, d1, p0, p1, rfl, rfl, rfl, h0, h1⟩ := trodAll_two hA
  obtain ⟨rfl, rfl⟩ := trodVars_none hV
  clear hA0 hval0
  simp only [List.append_nil] at hW'
  have hlt0 : ∀ x ∈ p0, x.block < W.heap.size := fun x hx => hW'.lt x (by simp [hx])
  have hlt1 : ∀ x ∈ p1, x.block < W.heap.size := fun x hx => hW'.lt x (by simp [hx])
  obtain ⟨o, lv, rfl, ho⟩ := open_object (hval 0 24 v0 rfl rfl) h0 (fits_each hsz 0 rfl rfl)
  obtain ⟨s, rfl⟩ := okWide_string Try.underlying9 (hval 1 9 v1 rfl rfl)
  have h1' := h1
  obtain ⟨fuel, hf⟩ := h1'
  obtain ⟨s', e1, hy, _⟩ := DataW.trod_string Try.underlying9 hf
  simp [Value.cells] at e1
  subst e1
  have hs1 := fits_each hsz 1 rfl rfl
  simp only [Prod.mk.injEq] at hy
  obtain ⟨rfl, rfl⟩ := hy
  have hs : s.size ≤ 140737488351232 := by
    have := hs1 s.data.toList.length (by simp [DataW.weights])
    simpa using this
  refine (objectTells_any o s lv _ W ho hs).mono fun e W' ⟨he, hnx⟩ => ?_
  subst he
  have harg0 := Below.trod row_laidOut (by kernel_rfl) (of_decide_eq_true (by kernel_rfl)) h0 hnx hlt0
  have harg1 := Below.trod row_laidOut (by kernel_rfl) (of_decide_eq_true (by kernel_rfl)) h1 hnx hlt1
  refine ⟨_, rfl, _, _, _, [], p0 ++ ([] ++ []), [], hW', trodAll_mk1 (shut_bool Try.underlying4 true), trodAll_cons_mk harg0 (trodAll_cons_mk harg1 trodAll_mk0), rfl, hnx.frame _, fun h => by cases h⟩

theorem objectTells_holds : Rows.ObjectTellsSaid :=
  OpenClaim.holds_of_wide 4 Try.f4 rfl rfl rfl rfl rfl rfl rfl ⟨rfl, rfl, rfl, rfl, rfl⟩ rfl rfl rfl rfl rfl (by kernel_rfl) Try.func4 (by kernel_rfl)
    (of_decide_eq_true (by kernel_rfl)) (by unfold Func.isWrapper; first | (rw [if_pos (by decide +kernel)]; kernel_rfl) | (rw [if_neg (by decide +kernel)]; exact ⟨rfl, rfl⟩))
    (fun os started H enc _ => objectTells_lifted os started H enc)

end Go.Proofs.Ytcppgkhkijejoaa
