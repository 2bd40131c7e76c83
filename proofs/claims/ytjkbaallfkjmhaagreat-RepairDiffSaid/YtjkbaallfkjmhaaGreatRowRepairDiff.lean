
/- Proves Rows.RepairDiffSaid: for any two replicas the law RepairDiff returns true, and both read behind the call as they read before. -/
import Derived.Test.YtjkbaallfkjmhaaGreatRepairDiff
import Derived.Test.YtjkbaallfkjmhaaGreatOpen
import Derived.Test.YtjkbaallfkjmhaaGreatOpen2
import Derived.Test.YtjkbaallfkjmhaaGreatOpen3
namespace Go.Proofs.YtjkbaallfkjmhaaGreat
open Go.ChangeShapes Go.WideShapes Go.ChangeAt Go.RowKit
set_option linter.unusedVariables false

set_option maxRecDepth 100000 in
theorem repairDiff_lifted (os : Os) (started : os.Started) (H : Type) (enc : TypeId × Value → H) :
    ReturnsInHanded {} Tryz.checked os 3 .any (Rows.repairDiffSpec.pre6 enc Tryz.prog Tryz.f3 Rows.repairDiffRow.domain false) (Rows.repairDiffSpec.post enc Tryz.prog Tryz.f3 false true false false) := by
  refine returnsInHanded_of_change_sized (C := Tryz.checked) row_own started (by kernel_rfl) Tryz.func3
    (ChangeSpec.witness6 (enc := enc) (C := Tryz.checked) false ⟨#[], #[.agg #[.slice none 0 0, .slice none 0 0, .int .i64 0, .int .i64 0, .slice none 0 0, .slice none 0 0, .bool false], .agg #[.slice none 0 0, .slice none 0 0, .int .i64 0, .int .i64 0, .slice none 0 0, .slice none 0 0, .bool false]], []⟩ 8 (by kernel_rfl) (by kernel_rfl) (by kernel_rfl) (by kernel_rfl)) ?_
  intro W base args ds gs before hval0 hW _ hsz0 _
  have hsz : (DataW.weightsEach Tryz.prog (Tryz.f3.params.toList ++ Rows.repairDiffSpec.plain.varTypes Tryz.prog) (ds ++ gs)).all (· ≤ reachBytes) = true := hsz0
  clear hsz0
  have hval : ∀ (j : Nat) t v, Tryz.f3.params[j]? = some t → args[j]? = some v → Value.okWide Tryz.prog W .any base t v := hval0
  have hW' := hW
  obtain ⟨p, q, hA0, hV, rfl, _, _⟩ := hW
  have hA : DataW.TrodAll enc Tryz.prog W 0 (fun _ => true) true Tryz.f3.params.toList args.toList ds p := hA0
  rw [Tryz.params3] at hA hval hsz
  obtain ⟨v0, v1, d0, d1, p0, p1, rfl, rfl, rfl, h0, h1⟩ := trodAll_two hA
  obtain ⟨rfl, rfl⟩ := trodVars_none hV
  clear hA0 hval0
  simp only [List.append_nil] at hW'
  have hlt0 : ∀ x ∈ p0, x.block < W.heap.size := fun x hx => hW'.lt x (by simp [hx])
  have hlt1 : ∀ x ∈ p1, x.block < W.heap.size := fun x hx => hW'.lt x (by simp [hx])
  obtain ⟨x0, sv0, rv0, ov0, uv0, rfl, hx0⟩ := open_replica (hval 0 28 v0 rfl rfl) h0 (fits_each hsz 0 rfl rfl)
  obtain ⟨x1, sv1, rv1, ov1, uv1, rfl, hx1⟩ := open_replica (hval 1 28 v1 rfl rfl) h1 (fits_each hsz 1 rfl rfl)
  refine (repairDiff_any x0 x1 _ _ _ _ _ _ _ _ _ _ W hx0 hx1).mono fun e W' ⟨he, hnx⟩ => ?_
  subst he
  have harg0 := Below.trod row_laidOut (by kernel_rfl) (of_decide_eq_true (by kernel_rfl)) h0 hnx hlt0
  have harg1 := Below.trod row_laidOut (by kernel_rfl) (of_decide_eq_true (by kernel_rfl)) h1 hnx hlt1
  refine ⟨_, rfl, _, _, _, [], p0 ++ (p1 ++ []), [], hW', trodAll_mk1 (shut_bool Tryz.underlying4 true), (trodAll_cons_mk harg0 (trodAll_cons_mk harg1 trodAll_mk0)), rfl, hnx.frame _, fun h => by cases h⟩

theorem repairDiff_holds : Rows.RepairDiffSaid :=
  OpenClaim.holds_of_wide 3 Tryz.f3 rfl rfl rfl rfl rfl rfl rfl ⟨rfl, rfl, rfl, rfl, rfl⟩ rfl rfl rfl rfl rfl (by kernel_rfl) Tryz.func3 (by kernel_rfl)
    (of_decide_eq_true (by kernel_rfl)) (by unfold Func.isWrapper; first | (rw [if_pos (by decide +kernel)]; kernel_rfl) | (rw [if_neg (by decide +kernel)]; exact ⟨rfl, rfl⟩))
    (fun os started H enc _ => repairDiff_lifted os started H enc)

end Go.Proofs.YtjkbaallfkjmhaaGreat
