
/- The plain law of what a push needs; rows of numbers sorted and cut. No program here. -/
import Derived.Test.YtemdnkoknjmheaaGreatPushA
import Derived.Shelf.Slices.CompactI
import Derived.Shelf.Sort.Plain
namespace Go.Proofs.YtemdnkoknjmheaaGreat
open Go.RowKit
set_option linter.unusedVariables false
set_option linter.unusedSimpArgs false

theorem upd_mapBlock (w : World) (blk : Nat) (f : Array Value → Array Value) : Upd (fun b => b = blk) w (Go.Sort.mapBlock w blk f) :=
  ⟨rfl, rfl, rfl, by simp [Go.Sort.mapBlock], fun b hb hn => by simp only [Go.Sort.mapBlock, Array.getElem?_modify]; rw [if_neg (fun e => hn e.symm)]⟩
theorem upd_ahead (w : World) (n : Nat) : Upd (fun _ => False) w (Go.Sort.ahead w n) := ⟨rfl, rfl, rfl, Nat.le_refl _, fun _ _ _ => rfl⟩
theorem upd_grow (w : World) (os : Array Go.Obj) : Upd (fun _ => False) w (Go.Sort.grow w os) := ⟨rfl, rfl, rfl, by simp [Go.Sort.grow], fun b hb _ => by simp [Go.Sort.grow, Array.getElem?_append, hb]⟩

/-- sorted, each once -/
def uniq (zs : List Int) : List Int := Lib.compact (zs.mergeSort fun x y => decide (x ≤ y))

theorem compact_spec {zs : List Int} (hs : ∀ i j, i ≤ j → j < zs.length → zs.toArray[i]! ≤ zs.toArray[j]!) : ∀ m, m ≤ zs.length →
    (Lib.compactUpTo zs.toArray m).Pairwise (· < ·) ∧ ∀ x, x ∈ Lib.compactUpTo zs.toArray m ↔ ∃ j, j < m ∧ zs.toArray[j]! = x := by
  intro m
  induction m with
  | zero => intro _; exact ⟨by simp [Lib.compactUpTo], fun x => by simp [Lib.compactUpTo]⟩
  | succ m ih =>
    intro hm
    obtain ⟨h1, h2⟩ := ih (by omega)
    rw [Lib.compactUpTo_succ]
    cases hk : Lib.keeps zs.toArray m
    · simp only [Bool.false_eq_true, if_false, List.append_nil]
      refine ⟨h1, fun x => ?_⟩
      rw [h2]
      have hk2 : ¬ (m = 0 ∨ zs.toArray[m]! ≠ zs.toArray[m - 1]!) := by
        intro h; unfold Lib.keeps at hk; rw [decide_eq_true h] at hk; cases hk
      have hm0 : m ≠ 0 := fun e => hk2 (.inl e)
      have he : zs.toArray[m]! = zs.toArray[m - 1]! := Classical.not_not.1 fun h => hk2 (.inr h)
      constructor
      · rintro ⟨j, hj, e⟩; exact ⟨j, by omega, e⟩
      · rintro ⟨j, hj, e⟩
        by_cases hjm : j = m
        · subst hjm; exact ⟨j - 1, by omega, by rw [← he]; exact e⟩
        · exact ⟨j, by omega, e⟩
    · simp only [if_true]
      have hk2 : m = 0 ∨ zs.toArray[m]! ≠ zs.toArray[m - 1]! := by unfold Lib.keeps at hk; exact of_decide_eq_true hk
      refine ⟨?_, fun x => ?_⟩
      · rw [List.pairwise_append]
        refine ⟨h1, List.pairwise_singleton _ _, fun a ha b hb => ?_⟩
        rw [List.mem_singleton.1 hb]
        obtain ⟨j, hj, e⟩ := (h2 a).1 ha
        subst e
        have hm0 : m ≠ 0 := by omega
        have hne := hk2.resolve_left hm0
        have a1 := hs j (m - 1) (by omega) (by omega)
        have a2 := hs (m - 1) m (by omega) (by omega)
        omega
      · rw [List.mem_append, h2, List.mem_singleton]
        constructor
        · rintro (⟨j, hj, e⟩ | e)
          · exact ⟨j, by omega, e⟩
          · exact ⟨m, by omega, e.symm⟩
        · rintro ⟨j, hj, e⟩
          by_cases hjm : j = m
          · subst hjm; exact .inr e.symm
          · exact .inl ⟨j, by omega, e⟩

theorem uniq_spec (zs : List Int) : (uniq zs).Pairwise (· < ·) ∧ ∀ x, x ∈ uniq zs ↔ x ∈ zs := by
  have hp : (zs.mergeSort fun x y => decide (x ≤ y)).Pairwise (fun x y => decide (x ≤ y) = true) := List.pairwise_mergeSort (by intro a b c h1 h2; simp at *; omega) (by intro a b; simp; omega) zs
  have hl : (zs.mergeSort fun x y => decide (x ≤ y)).length = zs.length := List.length_mergeSort zs
  have hm := fun x => (List.mem_mergeSort (l := zs) (le := fun x y => decide (x ≤ y)) (a := x))
  unfold uniq Lib.compact
  generalize zs.mergeSort (fun x y => decide (x ≤ y)) = ys at *
  have hg : ∀ i, (hi : i < ys.length) → ys.toArray[i]! = ys[i] := fun i hi => by rw [getElem!_pos ys.toArray i (by simpa using hi)]; simp
  have hs := compact_spec (zs := ys) (fun i j hij hj => by
    rw [hg i (by omega), hg j hj]
    by_cases e : i = j
    · subst e; omega
    · have := List.pairwise_iff_getElem.1 hp i j (by omega) hj (by omega)
      simpa using this) ys.length (Nat.le_refl _)
  refine ⟨hs.1, fun x => ?_⟩
  rw [hs.2, ← hm x]
  constructor
  · rintro ⟨j, hj, e⟩; rw [hg j hj] at e; rw [← e]; exact List.getElem_mem hj
  · intro h
    obtain ⟨j, hj, e⟩ := List.getElem_of_mem h
    exact ⟨j, hj, by rw [hg j hj]; exact e⟩
theorem uniq_length (zs : List Int) : (uniq zs).length ≤ zs.length := by
  unfold uniq
  have := Lib.compact_length_le (zs.mergeSort fun x y => decide (x ≤ y))
  rw [List.length_mergeSort] at this; exact this

theorem ints_ext : ∀ {a b : List Int}, a.Pairwise (· < ·) → b.Pairwise (· < ·) → (∀ x, x ∈ a ↔ x ∈ b) → a = b
  | [], [], _, _, _ => rfl
  | [], y :: b, _, _, h => absurd ((h y).2 List.mem_cons_self) (by simp)
  | x :: a, [], _, _, h => absurd ((h x).1 List.mem_cons_self) (by simp)
  | x :: a, y :: b, ha, hb, h => by
    have ha' := List.pairwise_cons.1 ha
    have hb' := List.pairwise_cons.1 hb
    have e : x = y := by
      have h1 := (h x).1 List.mem_cons_self
      have h2 := (h y).2 List.mem_cons_self
      rcases List.mem_cons.1 h1 with e | h1
      · exact e
      · rcases List.mem_cons.1 h2 with e | h2
        · exact e.symm
        · have a1 := ha'.1 y h2
          have a2 := hb'.1 x h1
          omega
    subst e
    have : a = b := ints_ext ha'.2 hb'.2 fun z => by
      constructor
      · intro hz
        rcases List.mem_cons.1 ((h z).1 (List.mem_cons_of_mem _ hz)) with e | h1
        · have := ha'.1 z hz; omega
        · exact h1
      · intro hz
        rcases List.mem_cons.1 ((h z).2 (List.mem_cons_of_mem _ hz)) with e | h1
        · have := hb'.1 z hz; omega
        · exact h1
    rw [this]

/-- is an id needed? -/
def needB (l : List Obj) (p : Psh) (id : Int) : Bool := (id != 0) && !(p.objects.any fun o => o.id == id) && (kindOf l id == 0)
def linksTo (p : Psh) (k : Nat) : List Int := (p.objects.take k).flatMap (·.links)
def newsTo (p : Psh) (k : Nat) : List Int := (p.updates.take k).map (·.new)
/-- what is needed, as it is met -/
def needG (l : List Obj) (p : Psh) : List Int := (linksTo p p.objects.length ++ newsTo p p.updates.length).filter (needB l p)
def needsE (l : List Obj) (p : Psh) : Int := if checkStore l ≠ 0 then checkStore l else checkPsh p
def needsL (l : List Obj) (p : Psh) : List Int := if needsE l p = 0 then uniq (needG l p) else []

/-- the document's way -/
def namedB (p : Psh) (id : Int) : Bool := (p.objects.any fun o => o.links.any fun x => x == id) || p.updates.any fun u => u.new == id
def wantB (l : List Obj) (p : Psh) (id : Int) : Bool := namedB p id && (decide (atOf l id < 0) && decide (atOf p.objects id < 0))
def wantTo (l : List Obj) (p : Psh) (k : Nat) : List Int := ((List.range k).map fun (i : Nat) => (i : Int) + 1).filter (wantB l p)

theorem eachE_zero {l : List Obj} (h : eachE l = 0) : ∀ o ∈ l, checkObj o = 0 := by
  intro o ho
  obtain ⟨i, hi, rfl⟩ := mem_obj ho
  exact scan_zero h i hi
theorem at_neg {l : List Obj} {id : Int} : atOf l id < 0 ↔ ∀ o ∈ l, o.id ≠ id := by
  unfold atOf
  cases h : l.findIdx? (fun o => o.id == id) with
  | none =>
    rw [List.findIdx?_eq_none_iff] at h
    simp only [show ((-1 : Int) < 0) = True from by simp, true_iff]
    intro o ho e
    have := h o ho
    simp [e] at this
  | some i =>
    rw [List.findIdx?_eq_some_iff_getElem] at h
    obtain ⟨hi, he, _⟩ := h
    simp only
    constructor
    · intro h; omega
    · intro h
      exact absurd (by simpa using he) (h _ (List.getElem_mem hi))
theorem kind_none {l : List Obj} (h : checkStore l = 0) {id : Int} : kindOf l id = 0 ↔ ∀ o ∈ l, o.id ≠ id := by
  unfold kindOf
  cases hf : l.find? (fun o => o.id == id) with
  | none =>
    rw [List.find?_eq_none] at hf
    simp only [true_iff]
    intro o ho e
    exact hf o ho (by simpa using e)
  | some o =>
    have h1 : o.id = id := by simpa using List.find?_some hf
    have h2 := List.mem_of_find?_eq_some hf
    obtain ⟨i, hi, rfl⟩ := mem_obj h2
    have h3 := checkObj_ok ((right_of h).each i hi)
    constructor
    · intro e
      have e' : (obj l i).kind = 0 := e
      omega
    · intro hx; exact absurd h1 (hx _ h2)
theorem link_range {o : Obj} (h : checkObj o = 0) {x : Int} (hx : x ∈ o.links) : 1 ≤ x ∧ x ≤ 98 := by
  obtain ⟨hid, _, _, _, hle⟩ := checkObj_ok h
  obtain ⟨i, hi, rfl⟩ := List.getElem_of_mem hx
  have hz : scan (linkBad o) o.links.length = 0 := by
    unfold linksErr at hle
    by_cases e : scan (linkBad o) o.links.length = 0
    · exact e
    · simp only [e, ne_eq, not_false_eq_true, if_true] at hle
  have h1 := scan_zero hz i hi
  have h2 : within (nth o.links i) 1 (o.id - 1) = true := by
    cases e : within (nth o.links i) 1 (o.id - 1)
    · rw [linkBad_range e] at h1; cases h1
    · rfl
  have := within_true h2
  rw [nth_lt hi] at this
  omega

theorem mem_needG {l : List Obj} {p : Psh} {x : Int} : x ∈ needG l p ↔ ((∃ o ∈ p.objects, x ∈ o.links) ∨ ∃ u ∈ p.updates, u.new = x) ∧ needB l p x = true := by
  unfold needG linksTo newsTo
  rw [List.mem_filter, List.mem_append, List.take_length, List.take_length, List.mem_flatMap, List.mem_map]
theorem needB_iff {l : List Obj} (h : checkStore l = 0) {p : Psh} {x : Int} : needB l p x = true ↔ x ≠ 0 ∧ (∀ o ∈ p.objects, o.id ≠ x) ∧ ∀ o ∈ l, o.id ≠ x := by
  unfold needB
  rw [Bool.and_eq_true, Bool.and_eq_true, beq_iff_eq, kind_none h]
  simp only [bne_iff_ne, Bool.not_eq_true', List.any_eq_false, beq_iff_eq]
  exact ⟨fun ⟨⟨a, b⟩, c⟩ => ⟨a, fun o ho => b o ho, c⟩, fun ⟨a, b, c⟩ => ⟨⟨a, fun o ho => b o ho⟩, c⟩⟩
theorem named_iff {p : Psh} {x : Int} : namedB p x = true ↔ (∃ o ∈ p.objects, x ∈ o.links) ∨ ∃ u ∈ p.updates, u.new = x := by
  unfold namedB
  rw [Bool.or_eq_true, List.any_eq_true, List.any_eq_true]
  constructor
  · rintro (⟨o, ho, h⟩ | ⟨u, hu, h⟩)
    · rw [List.any_eq_true] at h
      obtain ⟨y, hy, e⟩ := h
      exact .inl ⟨o, ho, by rw [← (by simpa using e : y = x)]; exact hy⟩
    · exact .inr ⟨u, hu, by simpa using h⟩
  · rintro (⟨o, ho, h⟩ | ⟨u, hu, h⟩)
    · exact .inl ⟨o, ho, by rw [List.any_eq_true]; exact ⟨x, h, by simp⟩⟩
    · exact .inr ⟨u, hu, by simpa using h⟩

/-- both ways tell the same ids -/
theorem need_want {l : List Obj} {p : Psh} (h : checkStore l = 0) (hp : checkPsh p = 0) : wantTo l p 99 = uniq (needG l p) := by
  obtain ⟨h1, h2⟩ := uniq_spec (needG l p)
  refine ints_ext ?_ h1 fun x => ?_
  · unfold wantTo
    refine List.Pairwise.filter _ ?_
    rw [List.pairwise_map]
    exact List.pairwise_lt_range.imp fun h => by omega
  · rw [h2, mem_needG]
    unfold wantTo
    rw [List.mem_filter, List.mem_map, needB_iff h]
    unfold wantB
    rw [Bool.and_eq_true, Bool.and_eq_true, decide_eq_true_eq, decide_eq_true_eq, at_neg, at_neg, named_iff]
    obtain ⟨_, he, hm⟩ := checkPsh_zero hp
    have hmo := mvs_ok.1 hm
    constructor
    · rintro ⟨⟨i, hi, e⟩, hn, ha, hb⟩
      exact ⟨hn, by omega, hb, ha⟩
    · rintro ⟨hn, h0, hb, ha⟩
      refine ⟨?_, hn, ha, hb⟩
      have hr : 1 ≤ x ∧ x ≤ 99 := by
        rcases hn with ⟨o, ho, hx⟩ | ⟨u, hu, e⟩
        · have := link_range (eachE_zero he o ho) hx; omega
        · have := hmo.new u hu; omega
      exact ⟨(x - 1).toNat, List.mem_range.2 (by omega), by omega⟩
end Go.Proofs.YtemdnkoknjmheaaGreat
