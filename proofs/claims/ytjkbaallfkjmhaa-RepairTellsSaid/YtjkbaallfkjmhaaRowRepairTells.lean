
/- Proves Rows.RepairTellsSaid: for any two replicas and any cluster the law RepairTells returns true, and all three read behind the call as they read before. -/
import Derived.Test.YtjkbaallfkjmhaaRepairTells
import Derived.Test.YtjkbaallfkjmhaaOpen
import Derived.Test.YtjkbaallfkjmhaaOpen2
import Derived.Test.YtjkbaallfkjmhaaOpen3
import Derived.Test.YtjkbaallfkjmhaaOpen4
namespace Go.Proofs.Ytjkbaallfkjmhaa
open Go.ChangeShapes Go.WideShapes Go.ChangeAt Go.RowKit
set_option linter.unusedVariables false

set_option maxRecDepth 100000 in
theorem repairTells_lifted (os : Os) (started : os.Started) (H : Type) (enc : TypeId × Value → H) :
    ReturnsInHanded {} Try.checked os 3 .any (Rows.repairTellsSpec.pre6 enc Try.prog Try.f3 Rows.repairTellsRow.domain false) (Rows.repairTellsSpec.post enc Try.prog Try.f3 false true false false) := by
  refine returnsInHanded_of_change_sized (C := Try.checked) row_own started (by kernel_rfl) Try.func3
    (ChangeSpec.witness6 (enc := enc) (C := Try.checked) false ⟨#[], #[.agg #[.slice none 0 0, .slice none 0 0, .int .i64 0, .int .i64 0, .slice none 0 0, .slice none 0 0, .bool false], .agg #[.slice none 0 0, .slice none 0 0, .int .i64 0, .int .i64 0, .slice none 0 0, .slice none 0 0, .bool false], .agg #[.slice none 0 0]], []⟩ 8 (by kernel_rfl) (by kernel_rfl) (by kernel_rfl) (by kernel_rfl)) ?_
  intro W base args ds gs before hval0 hW _ hsz0 _
  have hsz : (DataW.weightsEach Try.prog (Try.f3.params.toList ++ Rows.repairTellsSpec.plain.varTypes Try.prog) (ds ++ gs)).all (· ≤ reachBytes) = true := hsz0
  clear hsz0
  have hval : ∀ (j : Nat) t v, Try.f3.params[j]? = some t → args[j]? = some v → Value.okWide Try.prog W .any base t v := hval0
  have hW' := hW
  obtain ⟨p, q, hA0, hV, rfl, _, _⟩ := hW
  have hA : DataW.TrodAll enc Try.prog W 0 (fun _ => true) true Try.f3.params.toList args.toList ds p := hA0
  rw [Try.params3] at hA hval hsz
  obtain ⟨v0, v1, v2, d0, d1, d2, p0, p1, p2, rfl, rfl, rfl, h0, h1, h2⟩ := trodAll_three hA
  obtain ⟨rfl, rfl⟩ := trodVars_none hV
  clear hA0 hval0
  simp only [List.append_nil] at hW'
  have hlt0 : ∀ x ∈ p0, x.block < W.heap.size := fun x hx => hW'.lt x (by simp [hx])
  have hlt1 : ∀ x ∈ p1, x.block < W.heap.size := fun x hx => hW'.lt x (by simp [hx])
  have hlt2 : ∀ x ∈ p2, x.block < W.heap.size := fun x hx => hW'.lt x (by simp [hx])
  obtain ⟨x0, sv0, rv0, ov0, uv0, rfl, hx0⟩ := open_replica (hval 0 28 v0 rfl rfl) h0 (fits_each hsz 0 rfl rfl)
  obtain ⟨x1, sv1, rv1, ov1, uv1, rfl, hx1⟩ := open_replica (hval 1 28 v1 rfl rfl) h1 (fits_each hsz 1 rfl rfl)
  obtain ⟨x2, cv2, rfl, hx2⟩ := open_cluster (hval 2 31 v2 rfl rfl) h2 (fits_each hsz 2 rfl rfl)
  refine (repairTells_any x0 x1 x2 _ _ _ _ _ _ _ _ _ _ _ _ W hx0 hx1 hx2).mono fun e W' ⟨he, hnx⟩ => ?_
  subst he
  have harg0 := Below.trod row_laidOut (by kernel_rfl) (of_decide_eq_true (by kernel_rfl)) h0 hnx hlt0
  have harg1 := Below.trod row_laidOut (by kernel_rfl) (of_decide_eq_true (by kernel_rfl)) h1 hnx hlt1
  have harg2 := Below.trod row_laidOut (by kernel_rfl) (of_decide_eq_true (by kernel_rfl)) h2 hnx hlt2
  refine ⟨_, rfl, _, _, _, [], p0 ++ (p1 ++ (p2 ++ [])), [], hW', trodAll_mk1 (shut_bool Try.underlying4 true), (trodAll_cons_mk harg0 (trodAll_cons_mk harg1 (trodAll_cons_mk harg2 trodAll_mk0))), rfl, hnx.frame _, fun h => by cases h⟩

theorem repairTells_holds : Rows.RepairTellsSaid :=
  OpenClaim.holds_of_wide 3 Try.f3 rfl rfl rfl rfl rfl rfl rfl ⟨rfl, rfl, rfl, rfl, rfl⟩ rfl rfl rfl rfl rfl (by kernel_rfl) Try.func3 (by kernel_rfl)
    (of_decide_eq_true (by kernel_rfl)) (by unfold Func.isWrapper; first | (rw [if_pos (by decide +kernel)]; kernel_rfl) | (rw [if_neg (by decide +kernel)]; exact ⟨rfl, rfl⟩))
    (fun os started H enc _ => repairTells_lifted os started H enc)

end Go.Proofs.Ytjkbaallfkjmhaa
