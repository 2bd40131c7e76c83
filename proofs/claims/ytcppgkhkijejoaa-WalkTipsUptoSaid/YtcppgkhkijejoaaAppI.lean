
/- Memory: numbers are appended to a row of numbers of the call's own; walks: has. -/
import Derived.Test.YtcppgkhkijejoaaWalkB
namespace Go.Proofs.Ytcppgkhkijejoaa
open Go.RowKit
set_option linter.unusedVariables false
set_option linter.unusedSimpArgs false

theorem run_append_ints {w : World} {B : Nat} {v mv : Value} {xs ys : List Int} {S : Nat → Prop} (ty : TypeId) (hown : w.ownsRow B 3 1 v xs.length (xs.map (Value.int .i64))) (h : IntsV S w mv ys)
    (hl : (xs.length + ys.length) * 8 ≤ 140737488351232) (hB : B ≤ w.heap.size) :
    ∃ v' x, (Builtin.append_ #[22, 22] ty #[v, mv]).run Try.prog w = .ok v' x ∧ x.ownsRow B 3 1 v' (xs ++ ys).length ((xs ++ ys).map (Value.int .i64)) ∧ Upd (fun b => v.ownBlock = some b) w x := by
  obtain ⟨i0, hi, hz0, hz1, hz2⟩ := info_parts Try.infoInt
  obtain ⟨a, n, cap, HN, rfl, h1, h2, h3, h4⟩ := h.open
  have hn : n = ys.length := HN.out
  subst hn
  by_cases h0 : ys.length = 0
  · obtain rfl : ys = [] := List.length_eq_zero_iff.1 h0
    obtain ⟨base, sc, hv, hle⟩ : ∃ base sc, v = .slice base xs.length sc ∧ xs.length ≤ sc := by
      rcases hown.2 with ⟨rfl, hn⟩ | ⟨g, c, cur, rfl, _, _, hn, _⟩
      · exact ⟨none, 0, by rw [hn], by omega⟩
      · exact ⟨_, _, rfl, hn⟩
    subst hv
    refine ⟨_, w, run_append_nothing _ 22 22 ty 3 i0 Try.underlying22 hi base xs.length sc hle _
      ⟨.inl ⟨_, Try.underlying22⟩, fun w' => by simp [Builtin.lenOf], by cases a <;> simp [Builtin.firstCells] <;> rfl, by cases a <;> simp [Builtin.firstCells] <;> rfl, by simp, by simp⟩, ?_, Upd.refl _ _⟩
    rw [List.append_nil]; exact hown
  · obtain ⟨b, off, rfl, _, hc⟩ := h4 (by omega)
    obtain ⟨g', c', x', hr, ho, hg, _, _⟩ := run_append_lies (P := Try.prog) w 22 ty B 3 i0 _ 1 8 Try.underlying22 hi hz0 hz1 hz2 rfl (by omega) v xs.length _ hown ⟨b, off, none⟩ ys.length cap (ys.map (Value.int .i64)) (by simp)
      (fun j u hu => by
        rw [List.getElem?_map] at hu
        by_cases hj : j < ys.length
        · rw [List.getElem?_eq_getElem hj] at hu
          simp at hu; subst hu
          have := hc j _ hj (Below.refl _ _)
          rw [nth_lt hj] at this
          rw [show (⟨b, off, none⟩ : Addr).add j = ⟨b, off + j, none⟩ by unfold Addr.add; split <;> simp_all]
          exact this
        · rw [List.getElem?_eq_none (by omega)] at hu; cases hu)
      (by intro u hu; obtain ⟨k, _, rfl⟩ := List.mem_map.1 hu; rfl) (by omega) (by unfold maxLen; omega) (by omega) hB _ rfl
    refine ⟨_, x', hr, ?_, Upd.grown (Upd.refl _ _) hg (fun k hk _ => hk)⟩
    rw [List.length_append, List.map_append]; exact ho

/-- append(append([]int{}, a...), b...) -/
theorem run_append_two {w : World} {av bv : Value} {xs ys : List Int} {S S' : Nat → Prop} (ty : TypeId) (ha : IntsV S w av xs) (hb : IntsV S' w bv ys) (hl : (xs.length + ys.length) * 8 ≤ 140737488351232) :
    ∃ v1 x1 v2 x2, (Builtin.append_ #[22, 22] ty #[.slice (some ⟨w.heap.size, 0, none⟩) 0 0, av]).run Try.prog (w.alloc (.cells #[] 3)) = .ok v1 x1 ∧
      (Builtin.append_ #[22, 22] ty #[v1, bv]).run Try.prog x1 = .ok v2 x2 ∧ (∃ a n c, v1 = .slice a n c) ∧ (∃ a c, v2 = .slice a (xs.length + ys.length) c) ∧ IntsV (fun _ => True) x2 v2 (xs ++ ys) ∧ Below w.heap.size w x2 := by
  have hown := own_empty w 3 w.heap.size (Nat.le_refl _)
  have hB0 : Below w.heap.size w (w.alloc (.cells #[] 3)) := (Below.refl _ _).alloc (Nat.le_refl _) _
  obtain ⟨v1, x1, hr1, ho1, hu1⟩ := run_append_ints (xs := []) ty hown (ha.below hB0) (by simp; omega) hB0.size
  rw [List.nil_append] at ho1
  have hB1 : Below w.heap.size w x1 := hB0.trans (hu1.below (B := w.heap.size) hB0.size (fun b hb => (hown.lt b hb).1))
  obtain ⟨v2, x2, hr2, ho2, hu2⟩ := run_append_ints ty ho1 (hb.below hB1) hl hB1.size
  have hB2 : Below w.heap.size w x2 := hB1.trans (hu2.below (B := w.heap.size) hB1.size (fun b hb => (ho1.lt b hb).1))
  have hI := (own_ints' (zs := xs ++ ys) ho2 rfl (fun z hz => by
    rcases List.mem_append.1 hz with h | h
    · exact ha.2 z h
    · exact hb.2 z h) (by rw [List.length_append]; omega)).weaken (S' := fun _ => True) (fun _ _ => trivial)
  obtain ⟨a1, c1, e1⟩ := own_shape ho1
  obtain ⟨a2, c2, e2⟩ := own_shape ho2
  exact ⟨v1, x1, v2, x2, hr1, hr2, ⟨a1, _, c1, e1⟩, ⟨a2, c2, by rw [e2, List.length_append]⟩, hI, hB2⟩

def hasB (xs : List Int) (z : Int) : Bool := xs.any (fun x => x == z)
theorem has_none {xs : List Int} {z : Int} (h : ∀ j, j < xs.length → nth xs j ≠ z) : hasB xs z = false := by
  unfold hasB
  rw [List.any_eq_false]
  intro x hx
  obtain ⟨i, hi, rfl⟩ := List.getElem_of_mem hx
  have := h i hi
  rw [nth_lt hi] at this
  simpa using this
theorem has_one {xs : List Int} {z : Int} {k : Nat} (hk : k < xs.length) (h : nth xs k = z) : hasB xs z = true := by
  unfold hasB
  rw [List.any_eq_true]
  exact ⟨xs[k], List.getElem_mem hk, by rw [← nth_lt hk, h]; simp⟩

set_option maxHeartbeats 1000000 in
theorem lawHas_any (xs : List Int) (v : Value) (S : Nat → Prop) (z : Int) (w : World) (h : IntsV S w v xs) :
    Calls Try.prog 35 #[v, .int .i64 z] w fun e w' => e = .returned (.bool (hasB xs z)) ∧ w = w' := by
  obtain ⟨a, n, cap, HN, rfl, h1, h2, h3, h4⟩ := h.open
  clear h
  have Hh := Lib.hid (fun k (hk : k < n) he => has_one (xs := xs) (z := z) (k := k) (by rw [← HN.out]; exact hk) he)
  have Hn := Lib.hid (fun h1 => has_none (xs := xs) (z := z) (by rw [← HN.out]; exact h1))
  go_enter Try.func35, Try.ntmps35
  go_wp2
  go_loop [5] (fun i => ∃ k : Nat, k ≤ n ∧ i = .int .i64 k ∧ Hid (∀ j, j < k → nth xs j ≠ z)) (fun i => n - (intOf i).toNat)
  case atStart => exact ⟨0, by omega, rfl, fun j hj => absurd hj (by omega)⟩
  case round =>
    obtain ⟨k, hk, rfl, Hs⟩ := hrel
    by_cases hlt : k < n
    · obtain ⟨b, off, rfl, hb, k0⟩ := h4 (by omega)
      have x0 := k0 k w hlt (Below.refl _ _)
      clear h4 k0
      by_cases he : nth xs k = z
      · have hq : (nth xs k == z) = true := by simpa using he
        have HK := Lib.hid (Hh.out k hlt he)
        clear he
        go_wp2
        go_ret
        exact ⟨by rw [HK.out]; rfl, rfl⟩
      · have hq : (nth xs k == z) = false := by simpa using he
        have He := Lib.hid he; clear he
        go_wp2
        go_round
        case rel => exact ⟨k + 1, by omega, by go_num, all_next Hs.out He.out⟩
        case measure => simp [intOf]; omega
    · obtain rfl : k = n := by omega
      have HK := Lib.hid (Hn.out Hs.out)
      go_wp2
      go_ret
      exact ⟨by rw [HK.out]; rfl, rfl⟩
end Go.Proofs.Ytcppgkhkijejoaa
