
/- The plain law of walks: a part is a store by itself; walked again it is all of it; what is reached from several is what is reached from each. No program here. -/
import Derived.Test.YtcppgkhkijejoaaStoreLaw
import Derived.Test.YtcppgkhkijejoaaWalkB
namespace Go.Proofs.Ytcppgkhkijejoaa
set_option linter.unusedVariables false
set_option linter.unusedSimpArgs false

theorem store_of {l : List Obj} (h : Right l) : checkStore l = 0 := by
  refine checkStore_ok h.many (scan_of_zero fun i hi => ?_)
  unfold objErr
  rw [if_neg (by simpa using h.each i hi), if_neg (by
    rintro ⟨h0, h1⟩
    have := h.rising (i - 1) i (by omega) hi
    omega)]
  exact scan_of_zero fun k hk => h.link i hi k hk

theorem rising_pairwise {l : List Obj} (h : l.Pairwise (fun x y => x.id < y.id)) : Rising l := by
  intro i j hij hj
  rw [List.pairwise_iff_getElem] at h
  have := h i j (by omega) hj hij
  rwa [obj_lt (by omega), obj_lt hj]

section
variable {l : List Obj} {tips : List Int}

theorem mem_part {x : Obj} : x ∈ partOf l tips ↔ ∃ i, i < l.length ∧ reachB l false tips i = true ∧ obj l i = x := by
  unfold partOf
  rw [List.mem_map]
  constructor
  · rintro ⟨i, hi, rfl⟩
    rw [List.mem_filter] at hi
    exact ⟨i, List.mem_range.1 hi.1, hi.2, rfl⟩
  · rintro ⟨i, hi, hr, rfl⟩
    exact ⟨i, List.mem_filter.2 ⟨List.mem_range.2 hi, hr⟩, rfl⟩

theorem part_rising (h : Rising l) : Rising (partOf l tips) := by
  refine rising_pairwise ?_
  unfold partOf
  rw [List.pairwise_map]
  refine List.Pairwise.imp_of_mem ?_ ((List.pairwise_lt_range (n := l.length)).filter _)
  intro i j hi hj hij
  exact h i j hij (List.mem_range.1 (List.mem_filter.1 hj).1)

theorem reach_closed (h : Right l) {i j : Nat} (hi : i < l.length) (hr : reachB l false tips i = true) (e : edgeB l false i j = true) : reachB l false tips j = true := by
  have hj : j < l.length := by have := h.edge_lt hi e; omega
  obtain ⟨t, ht, htip, hp⟩ := (reach_iff h hi).1 hr
  exact (reach_iff h hj).2 ⟨t, ht, htip, hp.snoc e⟩

theorem link_edge {i j k : Nat} (hk : k < (obj l i).links.length) (hj : j < l.length) (e : (obj l j).id = nth (obj l i).links k) : edgeB l false i j = true := by
  simp only [edgeB, Bool.and_eq_true, decide_eq_true_eq, List.any_eq_true, beq_iff_eq]
  exact ⟨hj, nth (obj l i).links k, at_mem hk, e.symm⟩

/-- where a place of the store lies in the part -/
theorem part_place {i : Nat} (hi : i < l.length) (hr : reachB l false tips i = true) : ∃ m, m < (partOf l tips).length ∧ obj (partOf l tips) m = obj l i := mem_obj (mem_part.2 ⟨i, hi, hr, rfl⟩)
theorem place_part {m : Nat} (hm : m < (partOf l tips).length) : ∃ i, i < l.length ∧ reachB l false tips i = true ∧ obj l i = obj (partOf l tips) m := mem_part.1 (obj_mem hm)

theorem rising_le {p : List Obj} (h : Rising p) {a b : Nat} (ha : a < p.length) (hb : b < p.length) (e : (obj p a).id < (obj p b).id) : a < b := by
  rcases Nat.lt_trichotomy a b with h1 | rfl | h1
  · exact h1
  · omega
  · have := h b a h1 ha; omega

/-- A PART IS A STORE BY ITSELF -/
theorem part_right (h : Right l) : Right (partOf l tips) := by
  have hp := part_rising (tips := tips) h.rising
  refine ⟨hp, fun m hm => ?_, fun m hm k hk => ?_, ?_⟩
  · obtain ⟨i, hi, _, e⟩ := place_part hm
    rw [← e]; exact h.each i hi
  · obtain ⟨i, hi, hr, e⟩ := place_part hm
    rw [← e] at hk ⊢
    obtain ⟨j, hj, hid, hle⟩ := h.linked hi hk
    have hrj := reach_closed h hi hr (link_edge hk (by omega) hid)
    obtain ⟨m', hm', e'⟩ := part_place (by omega) hrj
    have hlt : m' < m := rising_le hp hm' hm (by rw [e', ← e]; exact h.rising j i hj hi)
    have e2 : obj ((partOf l tips).take m) m' = obj l j := by rw [obj_take hlt, e']
    have hk2 := (hp.take m).kind_self (i := m') (by rw [List.length_take]; omega)
    rw [e2] at hk2
    rw [← hid, hk2]; exact hle
  · have : (partOf l tips).length ≤ l.length := by
      unfold partOf; rw [List.length_map]; have := List.length_filter_le (reachB l false tips) (List.range l.length); rw [List.length_range] at this; exact this
    have := h.many; omega

theorem part_rch (h : Right l) {i j : Nat} (hp : Rch l false i j) (hi : i < l.length) (hr : reachB l false tips i = true) :
    ∀ m, m < (partOf l tips).length → obj (partOf l tips) m = obj l i → ∃ m', m' < (partOf l tips).length ∧ obj (partOf l tips) m' = obj l j ∧ Rch (partOf l tips) false m m' := by
  induction hp with
  | refl => intro m hm e; exact ⟨m, hm, e, .refl _⟩
  | @step a b c e _ ih =>
    intro m hm em
    have hb : b < l.length := by have := h.edge_lt hi e; omega
    have hrb := reach_closed h hi hr e
    obtain ⟨n, hn, en⟩ := part_place hb hrb
    obtain ⟨m', hm', e', hc⟩ := ih hb hrb n hn en
    refine ⟨m', hm', e', .step ?_ hc⟩
    unfold edgeB at e ⊢
    rw [em, en]
    simp only [Bool.and_eq_true, decide_eq_true_eq] at e ⊢
    exact ⟨hn, e.2⟩

/-- WALKED AGAIN IT IS ALL OF IT -/
theorem part_again (h : Right l) : partOf (partOf l tips) tips = partOf l tips := by
  have hp := part_right (tips := tips) h
  refine (part_rising hp.rising).ext hp.rising fun x => ⟨fun hx => ?_, fun hx => ?_⟩
  · obtain ⟨m, hm, _, rfl⟩ := mem_part.1 hx
    exact obj_mem hm
  · obtain ⟨i, hi, hr, rfl⟩ := mem_part.1 hx
    obtain ⟨t, ht, htip, hrc⟩ := (reach_iff h hi).1 hr
    have hrt : reachB l false tips t = true := (reach_iff h ht).2 ⟨t, ht, htip, .refl _⟩
    obtain ⟨n, hn, en⟩ := part_place ht hrt
    obtain ⟨m', hm', e', hc⟩ := part_rch h hrc ht hrt n hn en
    rw [← e']
    refine mem_part.2 ⟨m', hm', (reach_iff hp hm').2 ⟨n, hn, ?_, hc⟩, rfl⟩
    unfold tipB at htip ⊢
    rw [en]; exact htip

theorem tip_there (h : thereErr l tips = 0) {t : Int} (ht : t ∈ tips) : ∃ i, i < l.length ∧ (obj l i).id = t ∧ reachB l false tips i = true := by
  obtain ⟨h1, h2⟩ := there_zero h
  obtain ⟨i, hi, hid, _⟩ := kind_place (h2 t ht)
  refine ⟨i, hi, hid, (reach_iff (right_of h1) hi).2 ⟨i, hi, ?_, .refl _⟩⟩
  unfold tipB
  rw [List.any_eq_true]
  exact ⟨t, ht, by simp [hid]⟩

theorem kind_mem {p : List Obj} (h : Right p) {x : Obj} (hx : x ∈ p) : kindOf p x.id ≠ 0 ∧ atOf p x.id ≠ -1 ∧ 0 ≤ atOf p x.id := by
  obtain ⟨i, hi, rfl⟩ := mem_obj hx
  rw [h.rising.kind_self hi, h.rising.at_self hi]
  have := checkObj_ok (h.each i hi)
  exact ⟨by omega, by omega, by omega⟩

theorem there_of {p : List Obj} (h : checkStore p = 0) {ids : List Int} (hk : ∀ t ∈ ids, kindOf p t ≠ 0) : thereErr p ids = 0 := by
  unfold thereErr
  rw [if_neg (by simpa using h), if_neg]
  rw [List.any_eq_true]
  rintro ⟨t, ht, e⟩
  exact hk t ht (by simpa using e)

theorem part_tips (h : thereErr l tips = 0) {t : Int} (ht : t ∈ tips) : kindOf (partOf l tips) t ≠ 0 ∧ 0 ≤ atOf (partOf l tips) t := by
  obtain ⟨i, hi, hid, hr⟩ := tip_there h ht
  have := kind_mem (part_right (tips := tips) (right_of (there_zero h).1)) (mem_part.2 ⟨i, hi, hr, rfl⟩)
  rw [hid] at this
  exact ⟨this.1, this.2.2⟩
theorem part_there (h : thereErr l tips = 0) : thereErr (partOf l tips) tips = 0 :=
  there_of (store_of (part_right (right_of (there_zero h).1))) fun t ht => (part_tips h ht).1

theorem rch_all {i j : Nat} (h : Rch l true i j) : Rch l false i j := by
  induction h with
  | refl => exact .refl _
  | step e _ ih =>
    refine .step ?_ ih
    simp only [edgeB, Bool.and_eq_true, decide_eq_true_eq, List.any_eq_true] at e ⊢
    obtain ⟨hj, x, hx, he⟩ := e
    exact ⟨hj, x, List.mem_of_mem_drop (show x ∈ (obj l _).links.drop 1 from hx), he⟩

/-- WHAT IS BEHIND A TIP IS IN IT -/
theorem part_behind (h : thereErr l tips = 0) {t old : Int} (ht : t ∈ tips) (h1 : behindErr l old t = 0) (h2 : behindRes l old t = true) : 0 ≤ atOf (partOf l tips) old := by
  have hR := right_of (there_zero h).1
  have hth : thereErr l [old, t] = 0 := by
    unfold behindErr at h1
    by_cases e : thereErr l [old, t] = 0
    · exact e
    · rw [if_pos e] at h1; exact absurd h1 e
  obtain ⟨j, hj, hid, _⟩ := kind_place ((there_zero hth).2 old (by simp))
  have h3 : reachB l true [t] j = true := by
    unfold behindRes at h2
    rw [if_pos h1] at h2
    unfold behindB at h2
    rw [← hid, hR.rising.at_self hj] at h2
    exact h2
  obtain ⟨i, hi, htip, hrc⟩ := (reach_iff hR hj).1 h3
  have htip' : tipB l tips i = true := by
    unfold tipB at htip ⊢
    rw [List.any_eq_true] at htip ⊢
    obtain ⟨x, hx, e⟩ := htip
    exact ⟨x, by rw [List.mem_singleton.1 hx]; exact ht, e⟩
  have := (kind_mem (part_right (tips := tips) hR) (mem_part.2 ⟨j, hj, (reach_iff hR hj).2 ⟨i, hi, htip', rch_all hrc⟩, rfl⟩)).2.2
  rwa [hid] at this

/-- WHAT IS REACHED FROM SEVERAL IS WHAT IS REACHED FROM EACH -/
theorem tips_append {a b : List Int} (h : Right l) {x : Obj} : x ∈ partOf l (a ++ b) ↔ x ∈ partOf l a ∨ x ∈ partOf l b := by
  have ht : ∀ i, tipB l (a ++ b) i = true ↔ tipB l a i = true ∨ tipB l b i = true := fun i => by unfold tipB; rw [List.any_append, Bool.or_eq_true]
  constructor
  · intro hx
    obtain ⟨i, hi, hr, rfl⟩ := mem_part.1 hx
    obtain ⟨t, htl, htip, hp⟩ := (reach_iff h hi).1 hr
    rcases (ht t).1 htip with h1 | h1
    · exact .inl (mem_part.2 ⟨i, hi, (reach_iff h hi).2 ⟨t, htl, h1, hp⟩, rfl⟩)
    · exact .inr (mem_part.2 ⟨i, hi, (reach_iff h hi).2 ⟨t, htl, h1, hp⟩, rfl⟩)
  · rintro (hx | hx)
    all_goals
      obtain ⟨i, hi, hr, rfl⟩ := mem_part.1 hx
      obtain ⟨t, htl, htip, hp⟩ := (reach_iff h hi).1 hr
      refine mem_part.2 ⟨i, hi, (reach_iff h hi).2 ⟨t, htl, (ht t).2 ?_, hp⟩, rfl⟩
    · exact .inl htip
    · exact .inr htip
/-- a tip that is reached anyhow adds nothing -/
theorem tips_reached {a : List Int} (h : Right l) : partOf l (a ++ (partOf l a).map (·.id)) = partOf l a := by
  refine (part_rising h.rising).ext (part_rising h.rising) fun x => ?_
  rw [tips_append h]
  refine ⟨fun hx => ?_, .inl⟩
  rcases hx with hx | hx
  · exact hx
  · obtain ⟨i, hi, hr, rfl⟩ := mem_part.1 hx
    obtain ⟨t, htl, htip, hp⟩ := (reach_iff h hi).1 hr
    unfold tipB at htip
    rw [List.any_eq_true] at htip
    obtain ⟨y, hy, e⟩ := htip
    obtain ⟨o, ho, rfl⟩ := List.mem_map.1 hy
    obtain ⟨m, hm, hrm, rfl⟩ := mem_part.1 ho
    have hmt : m = t := h.rising.inj hm htl (by simpa using e)
    subst hmt
    obtain ⟨t', ht', htip', hp'⟩ := (reach_iff h hm).1 hrm
    exact mem_part.2 ⟨i, hi, (reach_iff h hi).2 ⟨t', ht', htip', hp'.trans hp⟩, rfl⟩
theorem tips_there {a b : List Int} (ha : thereErr l a = 0) (hb : thereErr l b = 0) : thereErr l (a ++ b) = 0 :=
  there_of (there_zero ha).1 fun t ht => by
    rcases List.mem_append.1 ht with h | h
    · exact (there_zero ha).2 t h
    · exact (there_zero hb).2 t h
theorem reached_there {a : List Int} (ha : thereErr l a = 0) : thereErr l ((partOf l a).map (·.id)) = 0 :=
  there_of (there_zero ha).1 fun t ht => by
    obtain ⟨o, ho, rfl⟩ := List.mem_map.1 ht
    obtain ⟨m, hm, _, rfl⟩ := mem_part.1 ho
    exact (kind_mem (right_of (there_zero ha).1) (obj_mem hm)).1
end
end Go.Proofs.Ytcppgkhkijejoaa
