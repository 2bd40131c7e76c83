
/- The plain law: what a push needs. No program here. -/
import Derived.Test.YtemdnkoknjmheaaGreatPushP
import Derived.Test.YtemdnkoknjmheaaGreatNeedP
namespace Go.Proofs.YtemdnkoknjmheaaGreat
open Go.RowKit
set_option linter.unusedVariables false
set_option linter.unusedSimpArgs false

theorem needsE_zero {l : List Obj} {p : Psh} : needsE l p = 0 ↔ checkStore l = 0 ∧ checkPsh p = 0 := by
  unfold needsE
  by_cases h : checkStore l = 0
  · rw [if_neg (by simp [h])]; simp [h]
  · rw [if_pos h]; simp [h]
theorem needsL_bad {l : List Obj} {p : Psh} (h : needsE l p ≠ 0) : needsL l p = [] := by unfold needsL; rw [if_neg h]
/-- what is needed is nowhere -/
theorem needs_none {l : List Obj} {p : Psh} {x : Int} (hx : x ∈ needsL l p) : findE l x = 5 ∧ atOf p.objects x < 0 := by
  unfold needsL at hx
  by_cases h : needsE l p = 0
  · rw [if_pos h] at hx
    have hs := (needsE_zero.1 h).1
    have h1 := (mem_needG.1 (((uniq_spec _).2 x).1 hx)).2
    obtain ⟨_, h2, h3⟩ := (needB_iff hs).1 h1
    exact ⟨find_not hs h3, at_neg.2 h2⟩
  · rw [if_neg h] at hx; cases hx
/-- and rises -/
theorem needs_up {l : List Obj} {p : Psh} {i : Nat} (h : i + 1 < (needsL l p).length) : nth (needsL l p) i < nth (needsL l p) (i + 1) := by
  have hp : (needsL l p).Pairwise (· < ·) := by
    unfold needsL
    split
    · exact (uniq_spec _).1
    · exact List.Pairwise.nil
  have := List.pairwise_iff_getElem.1 hp i (i + 1) (by omega) h (by omega)
  rw [nth_lt (by omega), nth_lt h]
  exact this
/-- where there is whatever is named, nothing is needed -/
theorem needs_nil {l : List Obj} {p : Psh} (hs : checkStore l = 0) (h1 : ∀ o ∈ p.objects, ∀ x ∈ o.links, x ≠ 0 → (∃ y ∈ l, y.id = x) ∨ ∃ y ∈ p.objects, y.id = x) (h2 : ∀ u ∈ p.updates, u.new ≠ 0 → (∃ y ∈ l, y.id = u.new) ∨ ∃ y ∈ p.objects, y.id = u.new) : needsL l p = [] := by
  unfold needsL
  split
  · have h0 : ∀ x, x ∉ uniq (needG l p) := fun x hx => by
      obtain ⟨hn, hb⟩ := mem_needG.1 (((uniq_spec _).2 x).1 hx)
      obtain ⟨hx0, ho, hl⟩ := (needB_iff hs).1 hb
      rcases hn with ⟨o, ho1, hx1⟩ | ⟨u, hu, rfl⟩
      · rcases h1 o ho1 x hx1 hx0 with ⟨y, hy, e⟩ | ⟨y, hy, e⟩
        · exact hl y hy e
        · exact ho y hy e
      · rcases h2 u hu hx0 with ⟨y, hy, e⟩ | ⟨y, hy, e⟩
        · exact hl y hy e
        · exact ho y hy e
    exact List.eq_nil_iff_forall_not_mem.2 h0
  · rfl
/-- A PUSH THAT IS DONE NEEDS NOTHING, nor does it of the store it brings -/
theorem needs_done {r : Rep} {p : Psh} {L : List Obj} {M : List Rf} (hp : checkPsh p = 0) (h : TryOk r p L M) :
    needsL r.store p = [] ∧ needsE L p = 0 ∧ needsL L p = [] := by
  have hk := add_ok h.add
  rw [← h.whole] at hk
  have hL := h.store
  have a1 : ∀ o ∈ p.objects, ∀ x ∈ o.links, x ≠ 0 → ∃ y ∈ L, y.id = x := fun o ho x hx _ => by
    obtain ⟨k, hk1, rfl⟩ := List.getElem_of_mem hx
    obtain ⟨i, hi, e⟩ := mem_obj ((hk.mem o).2 (.inr ho))
    obtain ⟨j, hj, hid, _⟩ := (right_of hL).linked hi (k := k) (by rw [e]; exact hk1)
    refine ⟨obj L j, obj_mem (by omega), ?_⟩
    rw [hid, e, nth_lt hk1]
  have a2 : ∀ u ∈ p.updates, u.new ≠ 0 → ∃ y ∈ L, y.id = u.new := fun u hu hn => by
    obtain ⟨i, hi, rfl⟩ := mem_mv hu
    have := ((moveErr_zero.1 (scan_zero h.each i hi)).2 hn).1
    obtain ⟨j, hj, hid, _⟩ := kind_place (l := L) (id := (mv p.updates i).new) (by rw [this]; decide)
    exact ⟨_, obj_mem hj, hid⟩
  have part : ∀ {x : Int}, (∃ y ∈ L, y.id = x) → (∃ y ∈ r.store, y.id = x) ∨ ∃ y ∈ p.objects, y.id = x := fun ⟨y, hy, e⟩ =>
    ((hk.mem y).1 hy).elim (fun h => .inl ⟨y, h, e⟩) fun h => .inr ⟨y, h, e⟩
  exact ⟨needs_nil hk.left (fun o ho x hx h0 => part (a1 o ho x hx h0)) (fun u hu h0 => part (a2 u hu h0)), needsE_zero.2 ⟨hL, hp⟩,
    needs_nil hL (fun o ho x hx h0 => .inl (a1 o ho x hx h0)) (fun u hu h0 => .inl (a2 u hu h0))⟩
end Go.Proofs.YtemdnkoknjmheaaGreat
