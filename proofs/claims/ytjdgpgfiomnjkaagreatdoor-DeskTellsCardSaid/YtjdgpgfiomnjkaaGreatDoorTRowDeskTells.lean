/- Proves Rows.DeskTellsSaid: for any cluster and act the law DeskTells returns true, and both read behind the call as they read before. -/
import Derived.Test.YtjdgpgfiomnjkaaGreatDoorT37
import Derived.Test.YtjdgpgfiomnjkaaGreatDoorT38
import Derived.Test.YtjdgpgfiomnjkaaGreatDoorTie
import Derived.Test.YtjdgpgfiomnjkaaGreatDoorCards
import Derived.LaidMore
set_option linter.all false
set_option maxHeartbeats 40000000
set_option maxRecDepth 100000
namespace Go.Proofs.YtjdgpgfiomnjkaaGreatDoor
open Go.ChangeShapes Go.WideShapes Go.ChangeAt Go.RowKit
theorem MD (os : Os) (args : Array Value) : laidMetH Tryz.prog Rows.deskTellsRow.laid ((World.doorLaid Tryz.prog 24 os).forCall (fun _ _ => 0) ⟨#[], args, []⟩).memory :=
 laidMetH_of_parts3 (fuel := 8) (laidMet_of_run' 8 (by kernel_rfl) (by kernel_rfl)) (by kernel_rfl) (by kernel_rfl)
theorem Lm (os : Os) (started : os.Started) (H : Type) (enc : TypeId × Value → H) :
  ReturnsInHanded {} Tryz.checked os 4 .any (fun w args => (Rows.deskTellsSpec.pre enc Tryz.prog Tryz.f4 [] false w args ∧ laidMetH Tryz.prog Rows.deskTellsRow.laid w) ∧ sizedMet enc Tryz.prog Tryz.f4 (OpenSpec.ofChange Rows.deskTellsSpec) false w args) (Rows.deskTellsSpec.post enc Tryz.prog Tryz.f4 false true false false) := by
 refine returnsInHanded_of_change_and (C := Tryz.checked) (X := fun w _ => laidMetH Tryz.prog Rows.deskTellsRow.laid w) (fun _ _ _ hh h => h.of_heap hh) Xx started (by kernel_rfl) Tryz.func4
  (ChangeSpec.witness_shaped (enc := enc) (C := Tryz.checked) (os := os) (X := fun w _ => laidMetH Tryz.prog Rows.deskTellsRow.laid w) false (World.doorLaid Tryz.prog 24 os) #[.agg #[.slice none 0 0], .agg #[.int .i64 0, .int .i64 0, .int .i64 0, .int .i64 0, .slice none 0 0, .slice none 0 0, .bool false]] 8 rfl (World.shaped_of_RefB (by kernel_rfl) (by kernel_rfl)) (by kernel_rfl) (by kernel_rfl) (by kernel_rfl) (MD os _)) ?_
 intro W base args ds gs before hval0 hW _ hsz0 hL _
 have hsz : (DataW.weightsEach Tryz.prog (Tryz.f4.params.toList ++ Rows.deskTellsSpec.plain.varTypes Tryz.prog) (ds ++ gs)).all (· ≤ reachBytes) = true := hsz0
 clear hsz0
 have hval : ∀ (j : Nat) t v, Tryz.f4.params[j]? = some t → args[j]? = some v → Value.okWide Tryz.prog W .any base t v := hval0
 have hW' := hW
 obtain ⟨p, q, hA0, hV, rfl, _, _⟩ := hW
 have hA : DataW.TrodAll enc Tryz.prog W 0 (fun _ => true) true Tryz.f4.params.toList args.toList ds p := hA0
 rw [Tryz.params4] at hA hval hsz
 obtain ⟨v0, v1, d0, d1, p0, p1, rfl, rfl, rfl, h0, h1⟩ := trodAll_two hA
 obtain ⟨rfl, rfl⟩ := trodVars_none hV
 clear hA0 hval0
 simp only [List.append_nil] at hW'
 have hlt0 : ∀ x ∈ p0, x.block < W.heap.size := fun x hx => hW'.lt x (by simp [hx])
 have hlt1 : ∀ x ∈ p1, x.block < W.heap.size := fun x hx => hW'.lt x (by simp [hx])
 obtain ⟨x0, cv0, rfl, hx0⟩ := PC (hval 0 66 v0 rfl rfl) h0 (OS hsz 0 rfl rfl)
 obtain ⟨x1, ov1, uv1, rfl, hx1⟩ := VS (hval 1 68 v1 rfl rfl) h1 (OS hsz 1 rfl rfl)
 have htab : QG W := QB hL (by kernel_rfl) (by kernel_rfl)
 refine (Oc x0 x1 _ _ _ _ _ W hx0 hx1 htab).mono fun e W' ⟨he, hnx⟩ => ?_
 subst he
 have harg0 := Below.trod LN (by kernel_rfl) (of_decide_eq_true (by kernel_rfl)) h0 hnx hlt0
 have harg1 := Below.trod LN (by kernel_rfl) (of_decide_eq_true (by kernel_rfl)) h1 hnx hlt1
 refine ⟨_, rfl, _, _, _, [], p0 ++ (p1 ++ []), [], hW', trodAll_mk1 (shut_bool Tryz.underlying4 true), (trodAll_cons_mk harg0 (trodAll_cons_mk harg1 trodAll_mk0)), rfl, hnx.frame _, fun h => by cases h⟩
theorem Lc : joinedFacts Tryz.prog 4 Tryz.f4 Rows.deskTellsSpec Rows.deskTellsRow = true := by
 unfold joinedFacts
 rw [VC, Xq, Wc, Wj, Ya, Xz, Xf]
 repeat' (with_reducible refine Bool.and_eq_true_iff.2 ⟨?_, ?_⟩)
 all_goals (as_aux_lemma => kernel_rfl)
theorem deskTells_holds : Rows.DeskTellsSaid :=
 OpenClaim.holds_of_wide 4 Tryz.f4 rfl rfl rfl rfl rfl rfl rfl ⟨rfl, rfl, rfl, rfl, rfl⟩ rfl rfl rfl rfl rfl (by as_aux_lemma => kernel_rfl) Tryz.func4 Lc
  (of_decide_eq_true (by as_aux_lemma => kernel_rfl)) (by as_aux_lemma => (unfold Func.isWrapper; first | (rw [if_pos (by decide +kernel)]; kernel_rfl) | (rw [if_neg (by decide +kernel)]; exact ⟨rfl, rfl⟩)))
  (fun os started H enc _ => Lm os started H enc)
theorem deskTells_card : Rows.DeskTellsCardSaid :=
 Claim7.holds_tied_plain_at .later [] [.data, .data, .data] true Rows.deskTellsCard.stood.harness Rows.deskTellsCard.stood.looks
  deskTells_holds (fun _ h => by cases h) (by as_aux_lemma => kernel_rfl) (fun _ h => by cases h) deskTells_row_tie rfl ⟨rfl, rfl⟩ (by as_aux_lemma => kernel_rfl) rfl
  (fun f fn hf hfn => by
   obtain rfl : f = 4 := Option.some.inj ((show Tryz.prog.funcNamed "forestay/forestaylaw.DeskTells" = some 4 by as_aux_lemma => kernel_rfl).symm.trans hf) |>.symm
   obtain rfl : fn = Tryz.f4 := (Option.some.inj (Tryz.func4.symm.trans hfn)).symm
   exact ⟨Vc.symm, fun j t ht => by
    rw [Tryz.params4] at ht
    have hm : t ∈ [66, 68] := by simpa using Array.mem_of_getElem? ht
    have hall : ([66, 68].all fun u => !Tryz.prog.wantsStandIn u) = true := by as_aux_lemma => kernel_rfl
    exact (show Tryz.prog.wantsStandIn t = false by simpa using List.all_eq_true.1 hall t hm)⟩)
  (by as_aux_lemma => kernel_rfl)
end Go.Proofs.YtjdgpgfiomnjkaaGreatDoor
