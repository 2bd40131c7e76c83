
/- Proves Rows.ClusterBitsSaid: for any cluster, push and two numbers the law ClusterBits returns true, and all four read behind the call as they read before. -/
import Derived.Test.YtgkbalhkjolnmaaGreatDoorK33
import Derived.Test.YtgkbalhkjolnmaaGreatDoorK31
import Derived.Test.YtgkbalhkjolnmaaGreatDoorTie
import Derived.Test.YtgkbalhkjolnmaaGreatDoorCards
import Derived.LaidMore
import Derived.SevenTiedAt
namespace Go.Proofs.YtgkbalhkjolnmaaGreatDoor
open Go.ChangeShapes Go.WideShapes Go.ChangeAt Go.RowKit
set_option linter.unusedVariables false
set_option maxRecDepth 100000 in
theorem clusterBits_door (os : Os) (args : Array Value) : laidMetH Tryz.prog Rows.clusterBitsRow.laid ((World.doorLaid Tryz.prog 24 os).forCall (fun _ _ => 0) ⟨#[], args, []⟩).memory :=
 laidMetH_of_parts3 (fuel := 8) (laidMet_of_run' 8 (by kernel_rfl) (by kernel_rfl)) (by kernel_rfl) (by kernel_rfl)
set_option maxRecDepth 100000 in
theorem clusterBits_lifted (os : Os) (started : os.Started) (H : Type) (enc : TypeId × Value → H) :
  ReturnsInHanded {} Tryz.checked os 5 .any (fun w args => (Rows.clusterBitsSpec.pre enc Tryz.prog Tryz.f5 [] false w args ∧ laidMetH Tryz.prog Rows.clusterBitsRow.laid w) ∧ sizedMet enc Tryz.prog Tryz.f5 (OpenSpec.ofChange Rows.clusterBitsSpec) false w args) (Rows.clusterBitsSpec.post enc Tryz.prog Tryz.f5 false true false false) := by
 refine returnsInHanded_of_change_and (C := Tryz.checked) (X := fun w _ => laidMetH Tryz.prog Rows.clusterBitsRow.laid w) (fun _ _ _ hh h => h.of_heap hh) row_own started (by kernel_rfl) Tryz.func5
  (ChangeSpec.witness_shaped (enc := enc) (C := Tryz.checked) (os := os) (X := fun w _ => laidMetH Tryz.prog Rows.clusterBitsRow.laid w) false (World.doorLaid Tryz.prog 24 os) #[.agg #[.slice none 0 0], .agg #[.slice none 0 0, .slice none 0 0, .bool false], .int .i64 0, .int .i64 0] 8 rfl (World.shaped_of_RefB (by kernel_rfl) (by kernel_rfl)) (by kernel_rfl) (by kernel_rfl) (by kernel_rfl) (clusterBits_door os _)) ?_
 intro W base args ds gs before hval0 hW _ hsz0 hL _
 have hsz : (DataW.weightsEach Tryz.prog (Tryz.f5.params.toList ++ Rows.clusterBitsSpec.plain.varTypes Tryz.prog) (ds ++ gs)).all (· ≤ reachBytes) = true := hsz0
 clear hsz0
 have hval : ∀ (j : Nat) t v, Tryz.f5.params[j]? = some t → args[j]? = some v → Value.okWide Tryz.prog W .any base t v := hval0
 have hW' := hW
 obtain ⟨p, q, hA0, hV, rfl, _, _⟩ := hW
 have hA : DataW.TrodAll enc Tryz.prog W 0 (fun _ => true) true Tryz.f5.params.toList args.toList ds p := hA0
 rw [Tryz.params5] at hA hval hsz
 obtain ⟨v0, v1, v2, v3, d0, d1, d2, d3, p0, p1, p2, p3, rfl, rfl, rfl, h0, h1, h2, h3⟩ := trodAll_four hA
 obtain ⟨rfl, rfl⟩ := trodVars_none hV
 clear hA0 hval0
 simp only [List.append_nil] at hW'
 have hlt0 : ∀ x ∈ p0, x.block < W.heap.size := fun x hx => hW'.lt x (by simp [hx])
 have hlt1 : ∀ x ∈ p1, x.block < W.heap.size := fun x hx => hW'.lt x (by simp [hx])
 have hlt2 : ∀ x ∈ p2, x.block < W.heap.size := fun x hx => hW'.lt x (by simp [hx])
 have hlt3 : ∀ x ∈ p3, x.block < W.heap.size := fun x hx => hW'.lt x (by simp [hx])
 obtain ⟨x0, cv0, rfl, hx0⟩ := open_cluster (hval 0 24 v0 rfl rfl) h0 (fits_each hsz 0 rfl rfl)
 obtain ⟨x1, ov1, uv1, rfl, hx1⟩ := open_push (hval 1 28 v1 rfl rfl) h1 (fits_each hsz 1 rfl rfl)
 obtain ⟨x2, rfl⟩ := okWide_int Tryz.underlying3 (hval 2 3 v2 rfl rfl)
 have hx2 : I64 x2 := by
  obtain ⟨fuel, hf⟩ := h2
  obtain ⟨s', e1, hy, hw⟩ := DataW.trod_int Tryz.underlying3 hf
  simp [Value.cells] at e1
  subst e1
  exact wf_i64 hw
 obtain ⟨x3, rfl⟩ := okWide_int Tryz.underlying3 (hval 3 3 v3 rfl rfl)
 have hx3 : I64 x3 := by
  obtain ⟨fuel, hf⟩ := h3
  obtain ⟨s', e1, hy, hw⟩ := DataW.trod_int Tryz.underlying3 hf
  simp [Value.cells] at e1
  subst e1
  exact wf_i64 hw
 have htab : Tab W := tab_of_laid hL (by kernel_rfl) (by kernel_rfl)
 refine (clusterBits_any x0 x1 x2 x3 _ _ _ _ _ W hx0 hx1 hx2 hx3 htab).mono fun e W' ⟨he, hnx⟩ => ?_
 subst he
 have harg0 := Below.trod row_laidOut (by kernel_rfl) (of_decide_eq_true (by kernel_rfl)) h0 hnx hlt0
 have harg1 := Below.trod row_laidOut (by kernel_rfl) (of_decide_eq_true (by kernel_rfl)) h1 hnx hlt1
 have harg2 := Below.trod row_laidOut (by kernel_rfl) (of_decide_eq_true (by kernel_rfl)) h2 hnx hlt2
 have harg3 := Below.trod row_laidOut (by kernel_rfl) (of_decide_eq_true (by kernel_rfl)) h3 hnx hlt3
 refine ⟨_, rfl, _, _, _, [], p0 ++ (p1 ++ (p2 ++ (p3 ++ []))), [], hW', trodAll_mk1 (shut_bool Tryz.underlying4 true), (trodAll_cons_mk harg0 (trodAll_cons_mk harg1 (trodAll_cons_mk harg2 (trodAll_cons_mk harg3 trodAll_mk0)))), rfl, hnx.frame _, fun h => by cases h⟩
set_option maxHeartbeats 40000000 in
theorem clusterBits_closed : joinedFacts Tryz.prog 5 Tryz.f5 Rows.clusterBitsSpec Rows.clusterBitsRow = true := by
 unfold joinedFacts
 rw [pf_lifts, pf_keys, pf_heard, pf_enter, pf_out, pf_maps, pf_make]
 repeat' (with_reducible refine Bool.and_eq_true_iff.2 ⟨?_, ?_⟩)
 all_goals (as_aux_lemma => kernel_rfl)
theorem clusterBits_holds : Rows.ClusterBitsSaid :=
 OpenClaim.holds_of_wide 5 Tryz.f5 rfl rfl rfl rfl rfl rfl rfl ⟨rfl, rfl, rfl, rfl, rfl⟩ rfl rfl rfl rfl rfl (by as_aux_lemma => kernel_rfl) Tryz.func5 clusterBits_closed
  (of_decide_eq_true (by as_aux_lemma => kernel_rfl)) (by as_aux_lemma => (unfold Func.isWrapper; first | (rw [if_pos (by decide +kernel)]; kernel_rfl) | (rw [if_neg (by decide +kernel)]; exact ⟨rfl, rfl⟩)))
  (fun os started H enc _ => clusterBits_lifted os started H enc)
set_option maxRecDepth 100000 in
set_option maxHeartbeats 40000000 in
theorem clusterBits_card : Rows.ClusterBitsCardSaid :=
 Claim7.holds_tied_plain_at .later [] [.data, .data, .data] true Rows.clusterBitsCard.stood.harness Rows.clusterBitsCard.stood.looks
  clusterBits_holds (fun _ h => by cases h) (by as_aux_lemma => kernel_rfl) (fun _ h => by cases h) clusterBits_row_tie rfl ⟨rfl, rfl⟩ (by as_aux_lemma => kernel_rfl) rfl
  (fun f fn hf hfn => by
   obtain rfl : f = 5 := Option.some.inj ((show Tryz.prog.funcNamed "forestay/forestaylaw.ClusterBits" = some 5 by as_aux_lemma => kernel_rfl).symm.trans hf) |>.symm
   obtain rfl : fn = Tryz.f5 := (Option.some.inj (Tryz.func5.symm.trans hfn)).symm
   exact ⟨pf_looks.symm, fun j t ht => by
    rw [Tryz.params5] at ht
    have hm : t ∈ [24, 28, 3, 3] := by simpa using Array.mem_of_getElem? ht
    have hall : ([24, 28, 3, 3].all fun u => !Tryz.prog.wantsStandIn u) = true := by as_aux_lemma => kernel_rfl
    exact (show Tryz.prog.wantsStandIn t = false by simpa using List.all_eq_true.1 hall t hm)⟩)
  (by as_aux_lemma => kernel_rfl)
end Go.Proofs.YtgkbalhkjolnmaaGreatDoor
