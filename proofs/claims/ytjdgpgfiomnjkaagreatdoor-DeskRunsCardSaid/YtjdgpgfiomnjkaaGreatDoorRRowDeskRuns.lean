/- Proves Rows.DeskRunsSaid: for any row of acts the law DeskRuns returns true, and it reads behind the call as it read before. -/
import Derived.Test.YtjdgpgfiomnjkaaGreatDoorR38
import Derived.Test.YtjdgpgfiomnjkaaGreatDoorR39
import Derived.Test.YtjdgpgfiomnjkaaGreatDoorTie
import Derived.Test.YtjdgpgfiomnjkaaGreatDoorCards
import Derived.LaidMore
set_option linter.all false
set_option maxHeartbeats 40000000
set_option maxRecDepth 100000
namespace Go.Proofs.YtjdgpgfiomnjkaaGreatDoor
open Go.ChangeShapes Go.WideShapes Go.ChangeAt Go.RowKit
theorem Od (os : Os) (args : Array Value) : laidMetH Tryz.prog Rows.deskRunsRow.laid ((World.doorLaid Tryz.prog 24 os).forCall (fun _ _ => 0) ⟨#[], args, []⟩).memory :=
 laidMetH_of_parts3 (fuel := 8) (laidMet_of_run' 8 (by kernel_rfl) (by kernel_rfl)) (by kernel_rfl) (by kernel_rfl)
theorem LO (os : Os) (started : os.Started) (H : Type) (enc : TypeId × Value → H) :
  ReturnsInHanded {} Tryz.checked os 5 .any (fun w args => (Rows.deskRunsSpec.pre enc Tryz.prog Tryz.f5 [] false w args ∧ laidMetH Tryz.prog Rows.deskRunsRow.laid w) ∧ sizedMet enc Tryz.prog Tryz.f5 (OpenSpec.ofChange Rows.deskRunsSpec) false w args) (Rows.deskRunsSpec.post enc Tryz.prog Tryz.f5 false true false false) := by
 refine returnsInHanded_of_change_and (C := Tryz.checked) (X := fun w _ => laidMetH Tryz.prog Rows.deskRunsRow.laid w) (fun _ _ _ hh h => h.of_heap hh) WS started (by kernel_rfl) Tryz.func5
  (ChangeSpec.witness_shaped (enc := enc) (C := Tryz.checked) (os := os) (X := fun w _ => laidMetH Tryz.prog Rows.deskRunsRow.laid w) false (World.doorLaid Tryz.prog 24 os) #[.slice none 0 0] 8 rfl (World.shaped_of_RefB (by kernel_rfl) (by kernel_rfl)) (by kernel_rfl) (by kernel_rfl) (by kernel_rfl) (Od os _)) ?_
 intro W base args ds gs before hval0 hW _ hsz0 hL _
 have hsz : (DataW.weightsEach Tryz.prog (Tryz.f5.params.toList ++ Rows.deskRunsSpec.plain.varTypes Tryz.prog) (ds ++ gs)).all (· ≤ reachBytes) = true := hsz0
 clear hsz0
 have hval : ∀ (j : Nat) t v, Tryz.f5.params[j]? = some t → args[j]? = some v → Value.okWide Tryz.prog W .any base t v := hval0
 have hW' := hW
 obtain ⟨p, q, hA0, hV, rfl, _, _⟩ := hW
 have hA : DataW.TrodAll enc Tryz.prog W 0 (fun _ => true) true Tryz.f5.params.toList args.toList ds p := hA0
 rw [Tryz.params5] at hA hval hsz
 obtain ⟨v0, d0, rfl, rfl, h0⟩ := trodAll_one hA
 obtain ⟨rfl, rfl⟩ := trodVars_none hV
 clear hA0 hval0
 simp only [List.append_nil] at hW'
 have hlt0 : ∀ x ∈ p, x.block < W.heap.size := fun x hx => hW'.lt x (by simp [hx])
 obtain ⟨a0, n0, c0, rfl⟩ := okWide_slice Tryz.underlying76 (hval 0 76 v0 rfl rfl)
 obtain ⟨x0, hx0⟩ := h0.elim fun fuel hf => Uz (x := (d0, p)) hf (UA hsz 0 rfl rfl)
 have htab : QY W := PU hL (by kernel_rfl) (by kernel_rfl)
 refine (Ph x0 _ _ W hx0 htab).mono fun e W' ⟨he, hnx⟩ => ?_
 subst he
 have harg0 := Below.trod Qq (by kernel_rfl) (of_decide_eq_true (by kernel_rfl)) h0 hnx hlt0
 refine ⟨_, rfl, _, _, _, [], p ++ [], [], hW', trodAll_mk1 (shut_bool Tryz.underlying4 true), trodAll_cons_mk harg0 trodAll_mk0, rfl, hnx.frame _, fun h => by cases h⟩
theorem LG : joinedFacts Tryz.prog 5 Tryz.f5 Rows.deskRunsSpec Rows.deskRunsRow = true := by
 unfold joinedFacts
 rw [Wr, Xg, UU, Wf, XG, WE, WX]
 repeat' (with_reducible refine Bool.and_eq_true_iff.2 ⟨?_, ?_⟩)
 all_goals (as_aux_lemma => kernel_rfl)
theorem deskRuns_holds : Rows.DeskRunsSaid :=
 OpenClaim.holds_of_wide 5 Tryz.f5 rfl rfl rfl rfl rfl rfl rfl ⟨rfl, rfl, rfl, rfl, rfl⟩ rfl rfl rfl rfl rfl (by as_aux_lemma => kernel_rfl) Tryz.func5 LG
  (of_decide_eq_true (by as_aux_lemma => kernel_rfl)) (by as_aux_lemma => (unfold Func.isWrapper; first | (rw [if_pos (by decide +kernel)]; kernel_rfl) | (rw [if_neg (by decide +kernel)]; exact ⟨rfl, rfl⟩)))
  (fun os started H enc _ => LO os started H enc)
theorem deskRuns_card : Rows.DeskRunsCardSaid :=
 Claim7.holds_tied_plain_at .later [] [.data, .data, .data] true Rows.deskRunsCard.stood.harness Rows.deskRunsCard.stood.looks
  deskRuns_holds (fun _ h => by cases h) (by as_aux_lemma => kernel_rfl) (fun _ h => by cases h) deskRuns_row_tie rfl ⟨rfl, rfl⟩ (by as_aux_lemma => kernel_rfl) rfl
  (fun f fn hf hfn => by
   obtain rfl : f = 5 := Option.some.inj ((show Tryz.prog.funcNamed "forestay/forestaylaw.DeskRuns" = some 5 by as_aux_lemma => kernel_rfl).symm.trans hf) |>.symm
   obtain rfl : fn = Tryz.f5 := (Option.some.inj (Tryz.func5.symm.trans hfn)).symm
   exact ⟨Vk.symm, fun j t ht => by
    rw [Tryz.params5] at ht
    have hm : t ∈ [76] := by simpa using Array.mem_of_getElem? ht
    have hall : ([76].all fun u => !Tryz.prog.wantsStandIn u) = true := by as_aux_lemma => kernel_rfl
    exact (show Tryz.prog.wantsStandIn t = false by simpa using List.all_eq_true.1 hall t hm)⟩)
  (by as_aux_lemma => kernel_rfl)
end Go.Proofs.YtjdgpgfiomnjkaaGreatDoor
