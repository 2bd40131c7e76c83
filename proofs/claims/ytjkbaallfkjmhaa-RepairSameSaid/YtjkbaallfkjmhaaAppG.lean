
/- Memory: a store is appended to a row of the call's own. No program here. -/
import Derived.Test.YtjkbaallfkjmhaaRefB
namespace Go.Proofs.Ytjkbaallfkjmhaa
open Go.RowKit
set_option linter.unusedVariables false
set_option linter.unusedSimpArgs false

theorem obj_app_lt {l m : List Obj} {i : Nat} (h : i < l.length) : obj (l ++ m) i = obj l i := by
  unfold obj at_; simp only [List.getD_eq_getElem?_getD, List.getElem?_append_left h]
theorem obj_app_ge {l m : List Obj} {i : Nat} : obj (l ++ m) (l.length + i) = obj m i := by
  unfold obj at_; simp only [List.getD_eq_getElem?_getD]
  rw [List.getElem?_append_right (by omega), show l.length + i - l.length = i by omega]

theorem store_news {S : Nat → Prop} {w : World} {a : Option Addr} {n cap : Nat} {l : List Obj} {lvs : Nat → Value} (h : Sl S w (.slice a n cap) 4 56 l.length (fun i => objCells (obj l i) (lvs i))) (hn : 0 < l.length) :
    ∃ ad, a = some ad ∧ ∀ j u, (flat (fun i => objCells (obj l i) (lvs i)) l.length)[j]? = some u → w.cell? (ad.add j) = some u := by
  obtain ⟨a', cap', hv, h1, h2, h3, h4⟩ := h
  cases hv
  obtain ⟨b, off, rfl, hb, hc⟩ := h4 hn
  refine ⟨_, rfl, fun j u hu => ?_⟩
  have hj : j < l.length * 4 := by
    rcases Nat.lt_or_ge j (l.length * 4) with h | h
    · exact h
    · rw [List.getElem?_eq_none (by rw [flat_length (sz := 4) fun _ _ => rfl]; exact h)] at hu; cases hu
  have hi' : j / 4 < l.length := by omega
  have hm : j % 4 < (objCells (obj l (j / 4)) (lvs (j / 4))).length := by show j % 4 < 4; omega
  have e := flat_get (cs := fun i => objCells (obj l i) (lvs i)) (sz := 4) (n := l.length) (fun _ _ => rfl) (j / 4) hi' (j % 4) _ (List.getElem?_eq_getElem hm)
  rw [show j / 4 * 4 + j % 4 = j by omega, hu] at e
  have := hc (j / 4) hi' (j % 4) u (by rw [List.getElem?_eq_getElem hm]; exact e.symm)
  rw [show (⟨b, off, none⟩ : Addr).add j = ⟨b, off + j, none⟩ by unfold Addr.add; split <;> simp_all]
  rw [show off + j = off + j / 4 * 4 + j % 4 by omega]; exact this

theorem append_gath {B : Nat} {w : World} {v mv : Value} {l more : List Obj} {S : Nat → Prop} (ty : TypeId) (hG : Gath B w v l) (h : StoreV S w mv more) (hS : ∀ b, S b → b < w.heap.size ∧ v.ownBlock ≠ some b)
    (hl : l.length + more.length ≤ 1000) (hB : B ≤ w.heap.size) :
    ∃ v' x, (Builtin.append_ #[22, 22] ty #[v, mv]).run Try.prog w = .ok v' x ∧ Gath B x v' (l ++ more) ∧ Upd (fun b => v.ownBlock = some b) w x := by
  obtain ⟨i0, hi, hz0, hz1, hz2⟩ := info_parts Try.infoObj
  have hG' := hG
  obtain ⟨S1, lvs1, h1, hown, h3⟩ := hG
  obtain ⟨lvs, hsl, h5⟩ := h
  have hsl' := hsl
  obtain ⟨a, cap, rfl, hc1, hc2, hc3, _⟩ := hsl'
  by_cases h0 : more.length = 0
  · obtain rfl : more = [] := List.length_eq_zero_iff.1 h0
    obtain ⟨base, sc, hv, hle⟩ : ∃ base sc, v = .slice base l.length sc ∧ l.length ≤ sc := by
      rcases hown.2 with ⟨rfl, hn⟩ | ⟨g, c, cur, rfl, _, _, hn, _⟩
      · exact ⟨none, 0, by rw [hn], by omega⟩
      · exact ⟨_, _, rfl, hn⟩
    subst hv
    refine ⟨_, w, run_append_nothing _ 22 22 ty 47 i0 Try.underlying22 hi base l.length sc hle _
      ⟨.inl ⟨_, Try.underlying22⟩, fun w' => by simp [Builtin.lenOf], by cases a <;> simp [Builtin.firstCells] <;> rfl, by cases a <;> simp [Builtin.firstCells] <;> rfl, by simp, by simp⟩, ?_, Upd.refl _ _⟩
    rw [List.append_nil]; exact hG'
  · obtain ⟨ad, rfl, hnews⟩ := store_news hsl (by omega)
    obtain ⟨g, c, x, hr, ho, hg, hor, hlt⟩ := run_append_lies (P := Try.prog) w 22 ty B 47 i0 _ 4 56 Try.underlying22 hi hz0 hz1 hz2 rfl (by omega) v l.length _ hown ad more.length cap
      (flat (fun i => objCells (obj more i) (lvs i)) more.length) (flat_length fun _ _ => rfl) hnews (one_flat fun i hi => one_cells (h5 i hi)) (by omega) (by unfold maxLen; omega) (by omega) hB _ rfl
    have hu : Upd (fun b => v.ownBlock = some b) w x := Upd.grown (Upd.refl _ _) hg (fun k hk _ => hk)
    refine ⟨_, x, hr, ⟨fun b => S1 b ∨ S b, fun i => if i < l.length then lvs1 i else lvs (i - l.length), fun b hb => ?_, ?_, fun i hi => ?_⟩, hu⟩
    · have hb' : b < w.heap.size ∧ v.ownBlock ≠ some b := by rcases hb with hb | hb; exact h1 b hb; exact hS b hb
      refine ⟨Nat.lt_of_lt_of_le hb'.1 hu.size, fun e => ?_⟩
      have e' : g = b := by simpa [Value.ownBlock] using e
      rcases hor with h | h
      · exact hb'.2 (by rw [h, e'])
      · omega
    · rw [List.length_append, flat_add]
      have e1 : flat (fun i => objCells (obj (l ++ more) i) (if i < l.length then lvs1 i else lvs (i - l.length))) l.length = flat (fun i => objCells (obj l i) (lvs1 i)) l.length :=
        flat_congr fun i hi => by rw [obj_app_lt hi, if_pos hi]
      have e2 : flat (fun j => objCells (obj (l ++ more) (l.length + j)) (if l.length + j < l.length then lvs1 (l.length + j) else lvs (l.length + j - l.length))) more.length = flat (fun i => objCells (obj more i) (lvs i)) more.length :=
        flat_congr fun i hi => by rw [obj_app_ge, if_neg (by omega), show l.length + i - l.length = i by omega]
      rw [e1, e2]; exact ho
    · rw [List.length_append] at hi
      by_cases hlt : i < l.length
      · simp only [obj_app_lt hlt, if_pos hlt]
        exact ((h3 i hlt).upd hu (fun b hb e => (h1 b hb).2 e)).weaken fun _ h => .inl h
      · obtain ⟨j, rfl⟩ : ∃ j, i = l.length + j := ⟨i - l.length, by omega⟩
        simp only [obj_app_ge, if_neg hlt, show l.length + j - l.length = j by omega]
        exact ((h5 j (by omega)).upd hu (fun b hb e => (hS b hb).2 e)).weaken fun _ h => .inr h
end Go.Proofs.Ytjkbaallfkjmhaa
