/- StepD: StepD, StepE. -/
import Derived.Test.YtjdgpgfiomnjkaaGreatDoorT24
set_option linter.all false
set_option maxHeartbeats 4000000
set_option maxRecDepth 100000
namespace Go.Proofs.YtjdgpgfiomnjkaaGreatDoor
open Go.RowKit
theorem Ss (r : An) (sv rv ov uv : Value) (S : Nat → Prop) (w : World) (h : AH S w r sv rv ov uv) :
  Calls Tryz.prog 107 #[Bf r sv rv ov uv] w fun e w' => ∃ svt rvt, e = .returned (Bf (DD r) svt rvt (.slice none 0 0) (.slice none 0 0)) ∧ AH S w' (DD r) svt rvt (.slice none 0 0) (.slice none 0 0) ∧ Below w.heap.size w w' := by
 have H := zh h.lt
 obtain ⟨sa, sc, rfl⟩ := h.store.vshape
 obtain ⟨⟨ra, rc⟩, rfl⟩ := h.refs.shape
 obtain ⟨oa, oc, rfl⟩ := h.objs.vshape
 obtain ⟨⟨ua, uc⟩, rfl⟩ := h.upds.shape
 clear h
 simp only [Bf]
 obtain ⟨Q, hQ, hQ1, HB0⟩ := AI w [.cells (c7 r sa sc ra rc oa oc ua uc) 28, .cells #[.slice sa r.store.length sc, .slice ra r.refs.length rc, .int .i64 r.gen, .int .i64 0, .slice none 0 0, .slice none 0 0, .bool false] 28]
 simp only [List.foldl] at hQ1
 have hb2 := hQ.below _ hQ1
 have h1 : ((w.alloc (.cells (c7 r sa sc ra rc oa oc ua uc) 28)).alloc (.cells z7 28)).heap[w.heap.size]? = some (.cells (c7 r sa sc ra rc oa oc ua uc) 28 (0, 0)) := by rw [Below.heap_alloc _ _ _ (by simp)]; exact heap_alloc_new w _
 have h0 := heap_alloc_new w (.cells (c7 r sa sc ra rc oa oc ua uc) 28)
 have h2 := HB0 _ hQ1 1 _ rfl
 go_enter Tryz.func107, Tryz.ntmps107
 go_wp2_with fail
 have Hb2 := zh hb2
 generalize (w.alloc (.cells (c7 r sa sc ra rc oa oc ua uc) 28)).alloc (.cells #[.slice sa r.store.length sc, .slice ra r.refs.length rc, .int .i64 r.gen, .int .i64 0, .slice none 0 0, .slice none 0 0, .bool false] 28) = z at *
 have k0 := Aa (j := 0) h2 rfl
 have k1 := Aa (j := 1) h2 rfl
 have k2 := Aa (j := 2) h2 rfl
 have k3 := Aa (j := 3) h2 rfl
 have k4 := Aa (j := 4) h2 rfl
 have k5 := Aa (j := 5) h2 rfl
 have k6 := Aa (j := 6) h2 rfl
 refine bodyPost_ret (v := .agg #[.slice sa r.store.length sc, .slice ra r.refs.length rc, .int .i64 r.gen, .int .i64 0, .slice none 0 0, .slice none 0 0, .bool false]) (by simp [results, Tryz.results107, go_sem]; simp [k0, k1, k2, k3, k4, k5, k6] <;> rfl) rfl ?_
 have hr2 := H.out.below Hb2.out
 exact ⟨_, _, rfl, ⟨hr2.store.weaken fun _ h => h.1, hr2.refs.weaken fun _ h => h.1, Ah.nil _ _ _ _ (by omega), AM.nil _ _ _ _ (by omega), hr2.gen, by first | (show DL 0; unfold DL; decide)⟩, Hb2.out⟩
end Go.Proofs.YtjdgpgfiomnjkaaGreatDoor
