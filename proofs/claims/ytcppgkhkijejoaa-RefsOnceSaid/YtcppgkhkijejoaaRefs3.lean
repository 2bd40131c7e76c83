/- Walks: where a name is; what is wrong with an id that must be a commit's. -/
import Derived.Test.YtcppgkhkijejoaaRefs2
namespace Go.Proofs.Ytcppgkhkijejoaa
open Go.RowKit
set_option linter.unusedVariables false
set_option linter.unusedSimpArgs false

set_option maxHeartbeats 400000 in
theorem find1_any (r : Rf) (s : ByteArray) (a : Addr) (w : World) (hc : w.cell? a = some (.string s)) :
    Calls Try.prog 79 #[.agg #[.string r.name, .int .i64 r.id], .pointer (some a)] w fun e w' => e = .returned (.bool (r.name.toList == s.toList)) ∧ Below w.heap.size w w' := by
  obtain ⟨R, hR, hR1, hx⟩ := cls_box w #[.string r.name, .int .i64 r.id] 43
  have hx0 := hx 0 _ rfl _ hR1
  have hx1 := hx 1 _ rfl _ hR1
  have hc2 := below_cell (hR.below _ hR1) hc
  have hbw := hR.below _ hR1
  clear hx hR1 hR hc
  generalize hq : (r.name.toList == s.toList) = q
  go_enter Try.func79, Try.ntmps79
  go_wp2_with fail
  go_ret
  exact ⟨rfl, hbw⟩

set_option maxRecDepth 100000 in
set_option maxHeartbeats 400000 in
theorem find_any (l : List Rf) (v : Value) (S : Nat → Prop) (s : ByteArray) (w : World) (h : RefsV S w v l) :
    Calls Try.prog 59 #[v, .string s] w fun e w' => e = .returned (.int .i64 (findRf l s)) ∧ Below w.heap.size w w' := by
  obtain ⟨p, rfl⟩ := h.shape
  obtain ⟨R, hR, hR1, hc⟩ := cls_box w #[.string s] 9
  have hc0 := hc 0 _ rfl
  have hRb := hR.below
  have hRn := hR.next
  have Hap := Lib.hid (show AsksP' 79 (.pointer (some ⟨w.heap.size, 0, none⟩)) (fun r => r.name.toList == s.toList) (w.alloc (.cells #[.string s] 9)) l from fun x i _ hx => find1_any (rf l i) s _ x (hc0 x (hRn _ _ hR1 hx)))
  have hmf : ∀ (fn : Fn) (first cap : Array Value) (w : World), (Instr.makeFunc fn first cap).run Try.prog w = .ok (.func fn first cap) w := fun _ _ _ _ => rfl
  clear hc
  go_enter Try.func59, Try.ntmps59
  go_wp2_with (go_at_call 78; refine (indexFunc_any' l _ _ S _ _ _ (h.below (hRb _ hR1)) (fun _ _ => rfl) Hap.out).mono ?_; rintro e w' ⟨rfl, hb2⟩)
  go_ret
  exact ⟨rfl, hRb _ (hRn _ _ hR1 hb2)⟩

set_option maxHeartbeats 400000 in
theorem refsCommit_any (objs : List Obj) (v : Value) (S : Nat → Prop) (id : Int) (w : World) (h : StoreV S w v objs) (hr : Rising objs) :
    Calls Try.prog 80 #[v, .int .i64 id] w fun e w' => e = .returned (.int .i64 (commitErr objs id)) ∧ Below w.heap.size w w' := by
  obtain ⟨a, cap, n, rfl⟩ : ∃ a cap n, v = .slice a n cap := let ⟨_, ⟨a, cap, hv, _⟩, _⟩ := h; ⟨a, cap, _, hv⟩
  have Hk := Lib.hid (fun x (hx : Below w.heap.size w x) => kind_any objs _ S id x (h.below hx) hr)
  unfold commitErr
  generalize kindOf objs id = kd at *
  by_cases h0 : kd = 0
  · have q0 : (kd == 0) = true := by simpa using h0
    go_enter Try.func80, Try.ntmps80
    go_wp2_with (go_at_call 68; refine (Hk.out _ (Below.refl _ _)).mono ?_; rintro e w' ⟨rfl, hb2⟩)
    go_ret
    exact ⟨rfl, hb2⟩
  · have q0 : (kd == 0) = false := by simpa using h0
    by_cases h3 : kd = 3
    · have q3 : (kd == 3) = true := by simpa using h3
      go_enter Try.func80, Try.ntmps80
      go_wp2_with (go_at_call 68; refine (Hk.out _ (Below.refl _ _)).mono ?_; rintro e w' ⟨rfl, hb2⟩)
      go_ret
      exact ⟨rfl, hb2⟩
    · have q3 : (kd == 3) = false := by simpa using h3
      go_enter Try.func80, Try.ntmps80
      go_wp2_with (go_at_call 68; refine (Hk.out _ (Below.refl _ _)).mono ?_; rintro e w' ⟨rfl, hb2⟩)
      go_ret
      exact ⟨rfl, hb2⟩

set_option maxHeartbeats 400000 in
theorem checkCommit_any (objs : List Obj) (v : Value) (S : Nat → Prop) (id : Int) (w : World) (h : StoreV S w v objs) :
    Calls Try.prog 84 #[v, .int .i64 id] w fun e w' => e = .returned (.int .i64 (commitErr objs id)) ∧ w = w' := by
  obtain ⟨a, cap, n, rfl⟩ : ∃ a cap n, v = .slice a n cap := let ⟨_, ⟨a, cap, hv, _⟩, _⟩ := h; ⟨a, cap, _, hv⟩
  have Hk := Lib.hid (kindOf_any objs _ S id w h)
  unfold commitErr
  generalize kindOf objs id = kd at *
  by_cases h0 : kd = 0
  · have q0 : (kd == 0) = true := by simpa using h0
    go_enter Try.func84, Try.ntmps84
    go_wp2_with (go_at_call 40; refine Hk.out.mono ?_; rintro e w' ⟨rfl, rfl⟩)
    go_ret
    exact ⟨rfl, rfl⟩
  · have q0 : (kd == 0) = false := by simpa using h0
    by_cases h3 : kd = 3
    · have q3 : (kd != 3) = false := by simpa using h3
      go_enter Try.func84, Try.ntmps84
      go_wp2_with (go_at_call 40; refine Hk.out.mono ?_; rintro e w' ⟨rfl, rfl⟩)
      go_ret
      exact ⟨rfl, rfl⟩
    · have q3 : (kd != 3) = true := by simpa using h3
      go_enter Try.func84, Try.ntmps84
      go_wp2_with (go_at_call 40; refine Hk.out.mono ?_; rintro e w' ⟨rfl, rfl⟩)
      go_ret
      exact ⟨rfl, rfl⟩

end Go.Proofs.Ytcppgkhkijejoaa
