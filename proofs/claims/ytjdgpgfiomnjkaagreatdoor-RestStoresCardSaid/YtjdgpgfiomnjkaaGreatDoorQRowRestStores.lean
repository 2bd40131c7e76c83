
/- Proves Rows.RestStoresSaid: for any replica, push and store the law RestStores returns true, and all three read behind the call as they read before. -/
import Derived.Test.YtjdgpgfiomnjkaaGreatDoorQ31
import Derived.Test.YtjdgpgfiomnjkaaGreatDoorQ32
import Derived.Test.YtjdgpgfiomnjkaaGreatDoorTie
import Derived.Test.YtjdgpgfiomnjkaaGreatDoorCards
import Derived.LaidMore
import Derived.SevenTiedAt
namespace Go.Proofs.YtjdgpgfiomnjkaaGreatDoor
open Go.ChangeShapes Go.WideShapes Go.ChangeAt Go.RowKit
set_option linter.unusedVariables false
instance ghostAny : Ghost := ⟨fun _ => True⟩
set_option maxRecDepth 100000 in
theorem restStores_door (os : Os) (args : Array Value) : laidMetH Tryz.prog Rows.restStoresRow.laid ((World.doorLaid Tryz.prog 24 os).forCall (fun _ _ => 0) ⟨#[], args, []⟩).memory :=
 laidMetH_of_parts3 (fuel := 8) (laidMet_of_run' 8 (by kernel_rfl) (by kernel_rfl)) (by kernel_rfl) (by kernel_rfl)
set_option maxRecDepth 100000 in
theorem restStores_lifted (os : Os) (started : os.Started) (H : Type) (enc : TypeId × Value → H) :
  ReturnsInHanded {} Tryz.checked os 3 .any (fun w args => (Rows.restStoresSpec.pre enc Tryz.prog Tryz.f3 [] false w args ∧ laidMetH Tryz.prog Rows.restStoresRow.laid w) ∧ sizedMet enc Tryz.prog Tryz.f3 (OpenSpec.ofChange Rows.restStoresSpec) false w args) (Rows.restStoresSpec.post enc Tryz.prog Tryz.f3 false true false false) := by
 refine returnsInHanded_of_change_and (C := Tryz.checked) (X := fun w _ => laidMetH Tryz.prog Rows.restStoresRow.laid w) (fun _ _ _ hh h => h.of_heap hh) row_own started (by kernel_rfl) Tryz.func3
  (ChangeSpec.witness_shaped (enc := enc) (C := Tryz.checked) (os := os) (X := fun w _ => laidMetH Tryz.prog Rows.restStoresRow.laid w) false (World.doorLaid Tryz.prog 24 os) #[.agg #[.slice none 0 0, .slice none 0 0, .int .i64 0, .int .i64 0, .slice none 0 0, .slice none 0 0, .bool false], .agg #[.slice none 0 0, .slice none 0 0, .bool false], .slice none 0 0] 8 rfl (World.shaped_of_RefB (by kernel_rfl) (by kernel_rfl)) (by kernel_rfl) (by kernel_rfl) (by kernel_rfl) (restStores_door os _)) ?_
 intro W base args ds gs before hval0 hW _ hsz0 hL _
 have hsz : (DataW.weightsEach Tryz.prog (Tryz.f3.params.toList ++ Rows.restStoresSpec.plain.varTypes Tryz.prog) (ds ++ gs)).all (· ≤ reachBytes) = true := hsz0
 clear hsz0
 have hval : ∀ (j : Nat) t v, Tryz.f3.params[j]? = some t → args[j]? = some v → Value.okWide Tryz.prog W .any base t v := hval0
 have hW' := hW
 obtain ⟨p, q, hA0, hV, rfl, _, _⟩ := hW
 have hA : DataW.TrodAll enc Tryz.prog W 0 (fun _ => true) true Tryz.f3.params.toList args.toList ds p := hA0
 rw [Tryz.params3] at hA hval hsz
 letI ghostW : Ghost := ⟨fun b => b < W.heap.size⟩
 haveI : GhostAll W := ⟨fun _ h => h⟩
 obtain ⟨v0, v1, v2, d0, d1, d2, p0, p1, p2, rfl, rfl, rfl, h0, h1, h2⟩ := trodAll_three hA
 obtain ⟨rfl, rfl⟩ := trodVars_none hV
 clear hA0 hval0
 simp only [List.append_nil] at hW'
 have hlt0 : ∀ x ∈ p0, x.block < W.heap.size := fun x hx => hW'.lt x (by simp [hx])
 have hlt1 : ∀ x ∈ p1, x.block < W.heap.size := fun x hx => hW'.lt x (by simp [hx])
 have hlt2 : ∀ x ∈ p2, x.block < W.heap.size := fun x hx => hW'.lt x (by simp [hx])
 obtain ⟨x0, sv0, rv0, ov0, uv0, rfl, hx0⟩ := open_replica (hval 0 28 v0 rfl rfl) h0 (fits_each hsz 0 rfl rfl)
 obtain ⟨x1, ov1, uv1, rfl, hx1⟩ := open_push (hval 1 26 v1 rfl rfl) h1 (fits_each hsz 1 rfl rfl)
 obtain ⟨a2, n2, c2, rfl⟩ := okWide_slice Tryz.underlying22 (hval 2 22 v2 rfl rfl)
 obtain ⟨x2, hx2⟩ := h2.elim fun fuel hf => open_store (x := (d2, p2)) hf (fits_each hsz 2 rfl rfl)
 have htab : Tab W := tab_of_laid hL (by kernel_rfl) (by kernel_rfl)
 refine (restStores_any x0 x1 x2 _ _ _ _ _ _ _ _ _ _ W hx0 hx1 hx2 htab (fun _ h => h)).mono fun e W' ⟨he, hnx⟩ => ?_
 subst he
 have harg0 := Below.trod row_laidOut (by kernel_rfl) (of_decide_eq_true (by kernel_rfl)) h0 hnx hlt0
 have harg1 := Below.trod row_laidOut (by kernel_rfl) (of_decide_eq_true (by kernel_rfl)) h1 hnx hlt1
 have harg2 := Below.trod row_laidOut (by kernel_rfl) (of_decide_eq_true (by kernel_rfl)) h2 hnx hlt2
 refine ⟨_, rfl, _, _, _, [], p0 ++ (p1 ++ (p2 ++ [])), [], hW', trodAll_mk1 (shut_bool Tryz.underlying4 true), (trodAll_cons_mk harg0 (trodAll_cons_mk harg1 (trodAll_cons_mk harg2 trodAll_mk0))), rfl, hnx.frame _, fun h => by cases h⟩
set_option maxHeartbeats 40000000 in
theorem restStores_closed : joinedFacts Tryz.prog 3 Tryz.f3 Rows.restStoresSpec Rows.restStoresRow = true := by
 unfold joinedFacts
 rw [pf_lifts, pf_keys, pf_heard, pf_enter, pf_out, pf_maps, pf_make]
 repeat' (with_reducible refine Bool.and_eq_true_iff.2 ⟨?_, ?_⟩)
 all_goals (as_aux_lemma => kernel_rfl)
theorem restStores_holds : Rows.RestStoresSaid :=
 OpenClaim.holds_of_wide 3 Tryz.f3 rfl rfl rfl rfl rfl rfl rfl ⟨rfl, rfl, rfl, rfl, rfl⟩ rfl rfl rfl rfl rfl (by as_aux_lemma => kernel_rfl) Tryz.func3 restStores_closed
  (of_decide_eq_true (by as_aux_lemma => kernel_rfl)) (by as_aux_lemma => (unfold Func.isWrapper; first | (rw [if_pos (by decide +kernel)]; kernel_rfl) | (rw [if_neg (by decide +kernel)]; exact ⟨rfl, rfl⟩)))
  (fun os started H enc _ => restStores_lifted os started H enc)
set_option maxRecDepth 100000 in
set_option maxHeartbeats 40000000 in
theorem restStores_card : Rows.RestStoresCardSaid :=
 Claim7.holds_tied_plain_at .later [] [.data, .data, .data] true Rows.restStoresCard.stood.harness Rows.restStoresCard.stood.looks
  restStores_holds (fun _ h => by cases h) (by as_aux_lemma => kernel_rfl) (fun _ h => by cases h) restStores_row_tie rfl ⟨rfl, rfl⟩ (by as_aux_lemma => kernel_rfl) rfl
  (fun f fn hf hfn => by
   obtain rfl : f = 3 := Option.some.inj ((show Tryz.prog.funcNamed "forestay/forestaylaw.RestStores" = some 3 by as_aux_lemma => kernel_rfl).symm.trans hf) |>.symm
   obtain rfl : fn = Tryz.f3 := (Option.some.inj (Tryz.func3.symm.trans hfn)).symm
   exact ⟨pf_looks.symm, fun j t ht => by
    rw [Tryz.params3] at ht
    have hm : t ∈ [28, 26, 22] := by simpa using Array.mem_of_getElem? ht
    have hall : ([28, 26, 22].all fun u => !Tryz.prog.wantsStandIn u) = true := by as_aux_lemma => kernel_rfl
    exact (show Tryz.prog.wantsStandIn t = false by simpa using List.all_eq_true.1 hall t hm)⟩)
  (by as_aux_lemma => kernel_rfl)
end Go.Proofs.YtjdgpgfiomnjkaaGreatDoor
