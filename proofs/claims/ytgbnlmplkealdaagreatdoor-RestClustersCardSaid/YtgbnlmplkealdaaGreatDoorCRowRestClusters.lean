
/- Proves Rows.RestClustersSaid: for any cluster and act the law RestClusters returns true, and both read behind the call as they read before. -/
import Derived.Test.YtgbnlmplkealdaaGreatDoorC43
import Derived.Test.YtgbnlmplkealdaaGreatDoorC44
import Derived.Test.YtgbnlmplkealdaaGreatDoorTie
import Derived.Test.YtgbnlmplkealdaaGreatDoorCards
import Derived.LaidMore
set_option linter.all false
set_option maxHeartbeats 40000000
set_option maxRecDepth 100000
namespace Go.Proofs.YtgbnlmplkealdaaGreatDoor
open Go.ChangeShapes Go.WideShapes Go.ChangeAt Go.RowKit
instance ghostAny : Ghost := ⟨fun _ => True⟩
theorem Ll (os : Os) (args : Array Value) : laidMetH Tryz.prog Rows.restClustersRow.laid ((World.doorLaid Tryz.prog 24 os).forCall (fun _ _ => 0) ⟨#[], args, []⟩).memory :=
 laidMetH_of_parts3 (fuel := 8) (laidMet_of_run' 8 (by kernel_rfl) (by kernel_rfl)) (by kernel_rfl) (by kernel_rfl)
theorem JM (os : Os) (started : os.Started) (H : Type) (enc : TypeId × Value → H) :
  ReturnsInHanded {} Tryz.checked os 3 .any (fun w args => (Rows.restClustersSpec.pre enc Tryz.prog Tryz.f3 [] false w args ∧ laidMetH Tryz.prog Rows.restClustersRow.laid w) ∧ sizedMet enc Tryz.prog Tryz.f3 (OpenSpec.ofChange Rows.restClustersSpec) false w args) (Rows.restClustersSpec.post enc Tryz.prog Tryz.f3 false true false false) := by
 refine returnsInHanded_of_change_and (C := Tryz.checked) (X := fun w _ => laidMetH Tryz.prog Rows.restClustersRow.laid w) (fun _ _ _ hh h => h.of_heap hh) Zn started (by kernel_rfl) Tryz.func3
  (ChangeSpec.witness_shaped (enc := enc) (C := Tryz.checked) (os := os) (X := fun w _ => laidMetH Tryz.prog Rows.restClustersRow.laid w) false (World.doorLaid Tryz.prog 24 os) #[.agg #[.slice none 0 0], .agg #[.int .i64 0, .int .i64 0, .int .i64 0, .int .i64 0, .slice none 0 0, .slice none 0 0, .bool false]] 8 rfl (World.shaped_of_RefB (by kernel_rfl) (by kernel_rfl)) (by kernel_rfl) (by kernel_rfl) (by kernel_rfl) (Ll os _)) ?_
 intro W base args ds gs before hval0 hW _ hsz0 hL _
 have hsz : (DataW.weightsEach Tryz.prog (Tryz.f3.params.toList ++ Rows.restClustersSpec.plain.varTypes Tryz.prog) (ds ++ gs)).all (· ≤ reachBytes) = true := hsz0
 clear hsz0
 have hval : ∀ (j : Nat) t v, Tryz.f3.params[j]? = some t → args[j]? = some v → Value.okWide Tryz.prog W .any base t v := hval0
 have hW' := hW
 obtain ⟨p, q, hA0, hV, rfl, _, _⟩ := hW
 have hA : DataW.TrodAll enc Tryz.prog W 0 (fun _ => true) true Tryz.f3.params.toList args.toList ds p := hA0
 rw [Tryz.params3] at hA hval hsz
 letI ghostW : Ghost := ⟨fun b => b < W.heap.size⟩
 haveI : GhostAll W := ⟨fun _ h => h⟩
 obtain ⟨v0, v1, d0, d1, p0, p1, rfl, rfl, rfl, h0, h1⟩ := trodAll_two hA
 obtain ⟨rfl, rfl⟩ := trodVars_none hV
 clear hA0 hval0
 simp only [List.append_nil] at hW'
 have hlt0 : ∀ x ∈ p0, x.block < W.heap.size := fun x hx => hW'.lt x (by simp [hx])
 have hlt1 : ∀ x ∈ p1, x.block < W.heap.size := fun x hx => hW'.lt x (by simp [hx])
 obtain ⟨x0, cv0, rfl, hx0⟩ := QC (hval 0 24 v0 rfl rfl) h0 (PG hsz 0 rfl rfl)
 obtain ⟨x1, ov1, uv1, rfl, hx1⟩ := XS (hval 1 30 v1 rfl rfl) h1 (PG hsz 1 rfl rfl)
 have htab : Qf W := SC hL (by kernel_rfl) (by kernel_rfl)
 refine (Mc x0 x1 _ _ _ _ _ W hx0 hx1 htab (fun _ h => h)).mono fun e W' ⟨he, hnx⟩ => ?_
 subst he
 have harg0 := Below.trod MA (by kernel_rfl) (of_decide_eq_true (by kernel_rfl)) h0 hnx hlt0
 have harg1 := Below.trod MA (by kernel_rfl) (of_decide_eq_true (by kernel_rfl)) h1 hnx hlt1
 refine ⟨_, rfl, _, _, _, [], p0 ++ (p1 ++ []), [], hW', trodAll_mk1 (shut_bool Tryz.underlying4 true), (trodAll_cons_mk harg0 (trodAll_cons_mk harg1 trodAll_mk0)), rfl, hnx.frame _, fun h => by cases h⟩
theorem JL : joinedFacts Tryz.prog 3 Tryz.f3 Rows.restClustersSpec Rows.restClustersRow = true := by
 unfold joinedFacts
 rw [XW, Zh, XV, XU, ZU, Zj, Zi]
 repeat' (with_reducible refine Bool.and_eq_true_iff.2 ⟨?_, ?_⟩)
 all_goals (as_aux_lemma => kernel_rfl)
theorem restClusters_holds : Rows.RestClustersSaid :=
 OpenClaim.holds_of_wide 3 Tryz.f3 rfl rfl rfl rfl rfl rfl rfl ⟨rfl, rfl, rfl, rfl, rfl⟩ rfl rfl rfl rfl rfl (by as_aux_lemma => kernel_rfl) Tryz.func3 JL
  (of_decide_eq_true (by as_aux_lemma => kernel_rfl)) (by as_aux_lemma => (unfold Func.isWrapper; first | (rw [if_pos (by decide +kernel)]; kernel_rfl) | (rw [if_neg (by decide +kernel)]; exact ⟨rfl, rfl⟩)))
  (fun os started H enc _ => JM os started H enc)
theorem restClusters_card : Rows.RestClustersCardSaid :=
 Claim7.holds_tied_plain_at .later [] [.data, .data, .data] true Rows.restClustersCard.stood.harness Rows.restClustersCard.stood.looks
  restClusters_holds (fun _ h => by cases h) (by as_aux_lemma => kernel_rfl) (fun _ h => by cases h) restClusters_row_tie rfl ⟨rfl, rfl⟩ (by as_aux_lemma => kernel_rfl) rfl
  (fun f fn hf hfn => by
   obtain rfl : f = 3 := Option.some.inj ((show Tryz.prog.funcNamed "forestay/forestaylaw.RestClusters" = some 3 by as_aux_lemma => kernel_rfl).symm.trans hf) |>.symm
   obtain rfl : fn = Tryz.f3 := (Option.some.inj (Tryz.func3.symm.trans hfn)).symm
   exact ⟨XX.symm, fun j t ht => by
    rw [Tryz.params3] at ht
    have hm : t ∈ [24, 30] := by simpa using Array.mem_of_getElem? ht
    have hall : ([24, 30].all fun u => !Tryz.prog.wantsStandIn u) = true := by as_aux_lemma => kernel_rfl
    exact (show Tryz.prog.wantsStandIn t = false by simpa using List.all_eq_true.1 hall t hm)⟩)
  (by as_aux_lemma => kernel_rfl)
end Go.Proofs.YtgbnlmplkealdaaGreatDoor
