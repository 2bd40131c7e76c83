
/- Memory: numbers are appended to a row of numbers of the call's own; walks: has. -/
import Derived.Test.YtgkbalhkjolnmaaGreatDoorL4
namespace Go.Proofs.YtgkbalhkjolnmaaGreatDoor
open Go.RowKit
set_option linter.unusedVariables false
set_option linter.unusedSimpArgs false
theorem run_append_ints {w : World} {B : Nat} {v mv : Value} {xs ys : List Int} {S : Nat → Prop} (ty : TypeId) (hown : w.ownsRow B 3 1 v xs.length (xs.map (Value.int .i64))) (h : IntsV S w mv ys)
  (hl : (xs.length + ys.length) * 8 ≤ 140737488351232) (hB : B ≤ w.heap.size) :
  ∃ v' x, (Builtin.append_ #[49, 49] ty #[v, mv]).run Tryz.prog w = .ok v' x ∧ x.ownsRow B 3 1 v' (xs ++ ys).length ((xs ++ ys).map (Value.int .i64)) ∧ Upd (fun b => v.ownBlock = some b) w x := by
 obtain ⟨i0, hi, hz0, hz1, hz2⟩ := info_parts Tryz.infoInt
 obtain ⟨a, n, cap, HN, rfl, h1, h2, h3, h4⟩ := h.open
 have hn : n = ys.length := HN.out
 subst hn
 by_cases h0 : ys.length = 0
 ·obtain rfl : ys = [] := List.length_eq_zero_iff.1 h0
  obtain ⟨base, sc, hv, hle⟩ : ∃ base sc, v = .slice base xs.length sc ∧ xs.length ≤ sc := by
   rcases hown.2 with ⟨rfl, hn⟩ | ⟨g, c, cur, rfl, _, _, hn, _⟩
   ·exact ⟨none, 0, by rw [hn], by omega⟩
   ·exact ⟨_, _, rfl, hn⟩
  subst hv
  refine ⟨_, w, run_append_nothing _ 49 49 ty 3 i0 Tryz.underlying49 hi base xs.length sc hle _
   ⟨.inl ⟨_, Tryz.underlying49⟩, fun w' => by simp [Builtin.lenOf], by cases a <;> simp [Builtin.firstCells] <;> rfl, by cases a <;> simp [Builtin.firstCells] <;> rfl, by simp, by simp⟩, ?_, Upd.refl _ _⟩
  rw [List.append_nil]; exact hown
 ·obtain ⟨b, off, rfl, _, hc⟩ := h4 (by omega)
  obtain ⟨g', c', x', hr, ho, hg, _, _⟩ := run_append_lies (P := Tryz.prog) w 49 ty B 3 i0 _ 1 8 Tryz.underlying49 hi hz0 hz1 hz2 rfl (by omega) v xs.length _ hown ⟨b, off, none⟩ ys.length cap (ys.map (Value.int .i64)) (by simp)
   (fun j u hu => by
    rw [List.getElem?_map] at hu
    by_cases hj : j < ys.length
    ·rw [List.getElem?_eq_getElem hj] at hu
     simp at hu; subst hu
     have := hc j _ hj (Below.refl _ _)
     rw [nth_lt hj] at this
     rw [show (⟨b, off, none⟩ : Addr).add j = ⟨b, off + j, none⟩ by unfold Addr.add; split <;> simp_all]
     exact this
    ·rw [List.getElem?_eq_none (by omega)] at hu; cases hu)
   (by intro u hu; obtain ⟨k, _, rfl⟩ := List.mem_map.1 hu; rfl) (by omega) (by unfold maxLen; omega) (by omega) hB _ rfl
  refine ⟨_, x', hr, ?_, Upd.grown (Upd.refl _ _) hg (fun k hk _ => hk)⟩
  rw [List.length_append, List.map_append]; exact ho
end Go.Proofs.YtgkbalhkjolnmaaGreatDoor
