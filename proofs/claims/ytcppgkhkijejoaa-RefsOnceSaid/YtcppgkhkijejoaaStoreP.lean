/- The plain law: stores: what the program's functions compute, as plain Lean functions. No program here. -/
import Derived.Test.YtcppgkhkijejoaaSame
namespace Go.Proofs.Ytcppgkhkijejoaa
set_option linter.unusedVariables false
set_option linter.unusedSimpArgs false

def kindOf (l : List Obj) (id : Int) : Int := match l.find? (fun o => o.id == id) with | some o => o.kind | none => 0
/-- the place of an object, or -1 -/
def atOf (l : List Obj) (id : Int) : Int := match l.findIdx? (fun o => o.id == id) with | some i => (i : Int) | none => -1

theorem find_hit {l : List Obj} {id : Int} {k : Nat} (h : ∀ j, j < k → (obj l j).id ≠ id) (hk : k < l.length) (he : (obj l k).id = id) : l.find? (fun o => o.id == id) = some (obj l k) := by
  induction l generalizing k with
  | nil => simp at hk
  | cons a l ih =>
    cases k with
    | zero =>
      have : a.id = id := he
      simp [List.find?_cons, this]; rfl
    | succ k =>
      have h0 : a.id ≠ id := h 0 (by omega)
      have hne : (a.id == id) = false := by simpa using h0
      rw [List.find?_cons, hne]
      exact ih (fun j hj => h (j + 1) (by omega)) (by simpa using hk) he

theorem find_none {l : List Obj} {id : Int} (h : ∀ j, j < l.length → (obj l j).id ≠ id) : l.find? (fun o => o.id == id) = none := by
  rw [List.find?_eq_none]
  intro x hx
  obtain ⟨i, hi, rfl⟩ := List.getElem_of_mem hx
  have := h i hi
  rw [obj_lt hi] at this
  simpa using this

theorem kindOf_hit {l : List Obj} {id : Int} {k : Nat} (h : ∀ j, j < k → (obj l j).id ≠ id) (hk : k < l.length) (he : (obj l k).id = id) : kindOf l id = (obj l k).kind := by
  unfold kindOf; rw [find_hit h hk he]
theorem kindOf_none {l : List Obj} {id : Int} (h : ∀ j, j < l.length → (obj l j).id ≠ id) : kindOf l id = 0 := by
  unfold kindOf; rw [find_none h]

theorem idx_hit {l : List Obj} {id : Int} {k : Nat} (h : ∀ j, j < k → (obj l j).id ≠ id) (hk : k < l.length) (he : (obj l k).id = id) : l.findIdx? (fun o => o.id == id) = some k := by
  rw [List.findIdx?_eq_some_iff_getElem]
  refine ⟨hk, by rw [← obj_lt hk]; simpa using he, fun j hj => ?_⟩
  have := h j hj
  rw [obj_lt (by omega)] at this
  simpa using this
theorem atOf_hit {l : List Obj} {id : Int} {k : Nat} (h : ∀ j, j < k → (obj l j).id ≠ id) (hk : k < l.length) (he : (obj l k).id = id) : atOf l id = k := by
  unfold atOf; rw [idx_hit h hk he]
theorem atOf_none {l : List Obj} {id : Int} (h : ∀ j, j < l.length → (obj l j).id ≠ id) : atOf l id = -1 := by
  unfold atOf
  have : l.findIdx? (fun o => o.id == id) = none := by
    rw [List.findIdx?_eq_none_iff]
    intro x hx
    obtain ⟨i, hi, rfl⟩ := List.getElem_of_mem hx
    have := h i hi
    rw [obj_lt hi] at this
    simpa using this
  rw [this]

/-- each is less than the next -/
def Rising (l : List Obj) : Prop := ∀ i j, i < j → j < l.length → (obj l i).id < (obj l j).id

theorem rising_of_next {l : List Obj} {n : Nat} (hn : n ≤ l.length) (h : ∀ i, i + 1 < n → (obj l i).id < (obj l (i + 1)).id) : ∀ i j, i < j → j < n → (obj l i).id < (obj l j).id := by
  intro i j hij
  induction j with
  | zero => omega
  | succ j ih =>
    intro hj
    have h1 := h j hj
    by_cases e : i = j
    · subst e; exact h1
    · have := ih (by omega) (by omega); omega

theorem obj_take {l : List Obj} {i n : Nat} (h : i < n) : obj (l.take n) i = obj l i := by
  unfold obj at_
  simp only [List.getD_eq_getElem?_getD, List.getElem?_take, h, if_true]

theorem rising_take {l : List Obj} {n : Nat} (h : ∀ i j, i < j → j < n → (obj l i).id < (obj l j).id) : Rising (l.take n) := by
  intro i j hij hj
  have hj' : j < n := by simp at hj; omega
  rw [obj_take (by omega), obj_take hj']
  exact h i j hij hj'

theorem Rising.take {l : List Obj} (h : Rising l) (n : Nat) : Rising (l.take n) := by
  intro i j hij hj
  simp at hj
  rw [obj_take (by omega), obj_take (by omega)]
  exact h i j hij (by omega)

/-- how many are less -/
def lo (l : List Obj) (id : Int) : Nat := l.countP (fun o => decide (o.id < id))
theorem lo_le (l : List Obj) (id : Int) : lo l id ≤ l.length := List.countP_le_length

theorem lo_eq {l : List Obj} {id : Int} {i : Nat} (hi : i ≤ l.length) (h1 : ∀ j, j < i → (obj l j).id < id) (h2 : ∀ j, i ≤ j → j < l.length → id ≤ (obj l j).id) : lo l id = i := by
  unfold lo
  conv => lhs; rw [← List.take_append_drop i l]
  rw [List.countP_append]
  have a1 : (l.take i).countP (fun o => decide (o.id < id)) = (l.take i).length := by
    rw [List.countP_eq_length]
    intro x hx
    obtain ⟨j, hj, rfl⟩ := List.getElem_of_mem hx
    simp at hj
    have := h1 j (by omega)
    rw [obj_lt (by omega)] at this
    simpa using this
  have a2 : (l.drop i).countP (fun o => decide (o.id < id)) = 0 := by
    rw [List.countP_eq_zero]
    intro x hx
    obtain ⟨j, hj, rfl⟩ := List.getElem_of_mem hx
    simp at hj
    have := h2 (i + j) (by omega) (by omega)
    rw [obj_lt (by omega)] at this
    simpa using this
  rw [a1, a2]; simp; omega

theorem Rising.lo_lt {l : List Obj} (h : Rising l) {id : Int} : ∀ j, j < lo l id → (obj l j).id < id := by
  induction l with
  | nil => intro j hj; simp [lo] at hj
  | cons a l ih =>
    have hl : Rising l := fun i j hij hj => h (i + 1) (j + 1) (by omega) (by simpa using hj)
    intro j hj
    by_cases ha : a.id < id
    · have e : lo (a :: l) id = lo l id + 1 := by unfold lo; rw [List.countP_cons]; simp [ha]
      cases j with
      | zero => exact ha
      | succ j => exact ih hl j (by omega)
    · have e : lo (a :: l) id = 0 := by
        refine lo_eq (by omega) (fun j hj => by omega) (fun j _ hj => ?_)
        cases j with
        | zero => show id ≤ a.id; omega
        | succ j => have : a.id < (obj (a :: l) (j + 1)).id := h 0 (j + 1) (by omega) hj; omega
      omega

theorem Rising.lo_ge {l : List Obj} (h : Rising l) {id : Int} : ∀ j, lo l id ≤ j → j < l.length → id ≤ (obj l j).id := by
  induction l with
  | nil => intro j _ hj; simp at hj
  | cons a l ih =>
    have hl : Rising l := fun i j hij hj => h (i + 1) (j + 1) (by omega) (by simpa using hj)
    intro j hlo hj
    by_cases ha : a.id < id
    · have e : lo (a :: l) id = lo l id + 1 := by unfold lo; rw [List.countP_cons]; simp [ha]
      cases j with
      | zero => omega
      | succ j => exact ih hl j (by omega) (by simpa using hj)
    · cases j with
      | zero => show id ≤ a.id; omega
      | succ j => have : a.id < (obj (a :: l) (j + 1)).id := h 0 (j + 1) (by omega) hj; omega

/-- is it there? -/
def isAt (l : List Obj) (id : Int) : Bool := decide (lo l id < l.length) && decide ((obj l (lo l id)).id = id)

theorem Rising.kind {l : List Obj} (h : Rising l) (id : Int) : kindOf l id = if isAt l id then (obj l (lo l id)).kind else 0 := by
  unfold isAt
  by_cases h1 : lo l id < l.length
  · by_cases h2 : (obj l (lo l id)).id = id
    · rw [kindOf_hit (k := lo l id) (fun j hj => by have := h.lo_lt j hj; omega) h1 h2]; simp [h1, h2]
    · rw [kindOf_none fun j hj => ?_]
      · simp [h2]
      · rcases Nat.lt_or_ge j (lo l id) with hj' | hj'
        · have := h.lo_lt j hj'; omega
        · by_cases e : j = lo l id
          · subst e; exact h2
          · have a := h (lo l id) j (by omega) hj
            have b := h.lo_ge (lo l id) (Nat.le_refl _) h1
            omega
  · rw [kindOf_none fun j hj => by have := h.lo_lt (id := id) j (by omega); omega]; simp [h1]

theorem Rising.at_ {l : List Obj} (h : Rising l) (id : Int) : atOf l id = if isAt l id then (lo l id : Int) else -1 := by
  unfold isAt
  by_cases h1 : lo l id < l.length
  · by_cases h2 : (obj l (lo l id)).id = id
    · rw [atOf_hit (k := lo l id) (fun j hj => by have := h.lo_lt j hj; omega) h1 h2]; simp [h1, h2]
    · rw [atOf_none fun j hj => ?_]
      · simp [h2]
      · rcases Nat.lt_or_ge j (lo l id) with hj' | hj'
        · have := h.lo_lt j hj'; omega
        · by_cases e : j = lo l id
          · subst e; exact h2
          · have a := h (lo l id) j (by omega) hj
            have b := h.lo_ge (lo l id) (Nat.le_refl _) h1
            omega
  · rw [atOf_none fun j hj => by have := h.lo_lt (id := id) j (by omega); omega]; simp [h1]

/-- what is wrong with link k of an object, to one of a kind (the program's words) -/
def linkErr (o : Obj) (k : Nat) (kind : Int) : Int :=
  if kind = 0 then 5
  else if (if o.kind = 3 then (kind = 2 ∧ k = 0) ∨ (kind = 3 ∧ 0 < k) else kind = 1 ∨ kind = 2) then 0 else 7
/-- the same, as the document has it -/
def linkErr' (o : Obj) (k : Nat) (kind : Int) : Int :=
  if kind = 0 then 5
  else if (o.kind = 2 ∧ kind = 3) ∨ (o.kind = 3 ∧ k = 0 ∧ kind ≠ 2) ∨ (o.kind = 3 ∧ 0 < k ∧ kind ≠ 3) then 7 else 0

theorem linkErr_same {o : Obj} {k : Nat} {kind : Int} (ho : o.kind = 2 ∨ o.kind = 3) (hk : kind = 0 ∨ kind = 1 ∨ kind = 2 ∨ kind = 3) : linkErr' o k kind = linkErr o k kind := by
  unfold linkErr linkErr'
  rcases ho with ho | ho <;> rcases hk with rfl | rfl | rfl | rfl <;> by_cases h0 : k = 0 <;> simp [ho, h0] <;> omega

/-- what is wrong with object i of a store -/
def objErr (l : List Obj) (i : Nat) : Int :=
  if checkObj (obj l i) ≠ 0 then checkObj (obj l i)
  else if 0 < i ∧ (obj l i).id ≤ (obj l (i - 1)).id then 4
  else scan (fun k => linkErr (obj l i) k (kindOf (l.take i) (nth (obj l i).links k))) (obj l i).links.length

/-- B1 -/
def checkStore (l : List Obj) : Int := if 40 < l.length then 2 else scan (objErr l) l.length

theorem objErr_bad {l : List Obj} {i : Nat} (h : checkObj (obj l i) ≠ 0) : objErr l i = checkObj (obj l i) := by unfold objErr; rw [if_pos h]
theorem objErr_state {l : List Obj} {i : Nat} (h : checkObj (obj l i) = 0) (h1 : 0 < i) (h2 : (obj l i).id ≤ (obj l (i - 1)).id) : objErr l i = 4 := by
  unfold objErr; rw [if_neg (by simp [h]), if_pos ⟨h1, h2⟩]
theorem objErr_links {l : List Obj} {i : Nat} (h : checkObj (obj l i) = 0) (h1 : 0 < i → (obj l (i - 1)).id < (obj l i).id) :
    objErr l i = scan (fun k => linkErr (obj l i) k (kindOf (l.take i) (nth (obj l i).links k))) (obj l i).links.length := by
  unfold objErr; rw [if_neg (by simp [h]), if_neg (fun h' => by have := h1 h'.1; omega)]

theorem objErr_zero {l : List Obj} {i : Nat} (h : objErr l i = 0) : checkObj (obj l i) = 0 ∧ (0 < i → (obj l (i - 1)).id < (obj l i).id) ∧
    ∀ k, k < (obj l i).links.length → linkErr (obj l i) k (kindOf (l.take i) (nth (obj l i).links k)) = 0 := by
  unfold objErr at h
  by_cases h1 : checkObj (obj l i) = 0
  · rw [if_neg (by simp [h1])] at h
    by_cases h2 : 0 < i ∧ (obj l i).id ≤ (obj l (i - 1)).id
    · rw [if_pos h2] at h; exact absurd h (by decide)
    · rw [if_neg h2] at h
      exact ⟨h1, fun hi => by omega, scan_zero h⟩
  · rw [if_pos h1] at h; exact absurd h h1

theorem checkStore_bad {l : List Obj} {i : Nat} {e : Int} (hn : l.length ≤ 40) (h0 : scan (objErr l) i = 0) (hi : i < l.length) (he : objErr l i = e) (hne : e ≠ 0) : checkStore l = e := by
  unfold checkStore; rw [if_neg (by omega), scan_hit h0 (by rw [he]; exact hne) hi, he]
theorem checkStore_ok {l : List Obj} (hn : l.length ≤ 40) (h0 : scan (objErr l) l.length = 0) : checkStore l = 0 := by
  unfold checkStore; rw [if_neg (by omega), h0]
theorem checkStore_many {l : List Obj} (hn : 40 < l.length) : checkStore l = 2 := by unfold checkStore; rw [if_pos hn]

/-- the first n are right: they rise -/
theorem scan_rising {l : List Obj} {n : Nat} (hn : n ≤ l.length) (h : scan (objErr l) n = 0) : Rising (l.take n) :=
  rising_take (rising_of_next hn fun i hi => by
    have := (objErr_zero (scan_zero h (i + 1) hi)).2.1 (by omega)
    simpa using this)

theorem scan_kind {l : List Obj} {n : Nat} (hn : n ≤ l.length) (h : scan (objErr l) n = 0) (id : Int) : kindOf (l.take n) id = 0 ∨ kindOf (l.take n) id = 1 ∨ kindOf (l.take n) id = 2 ∨ kindOf (l.take n) id = 3 := by
  unfold kindOf
  cases hf : (l.take n).find? (fun o => o.id == id) with
  | none => exact .inl rfl
  | some o =>
    have hm := List.mem_of_find?_eq_some hf
    obtain ⟨i, hi, rfl⟩ := List.getElem_of_mem hm
    simp at hi
    have h1 := (objErr_zero (scan_zero h i (by omega))).1
    rw [obj_lt (by omega)] at h1
    obtain ⟨_, h2, _⟩ := checkObj_ok h1
    simp only [List.getElem_take]
    omega

theorem checkStore_zero {l : List Obj} (h : checkStore l = 0) : l.length ≤ 40 ∧ scan (objErr l) l.length = 0 := by
  unfold checkStore at h
  by_cases h1 : 40 < l.length
  · rw [if_pos h1] at h; exact absurd h (by decide)
  · rw [if_neg h1] at h; exact ⟨by omega, h⟩

theorem checkStore_rising {l : List Obj} (h : checkStore l = 0) : Rising l := by
  have := scan_rising (Nat.le_refl _) (checkStore_zero h).2
  rwa [List.take_length] at this

end Go.Proofs.Ytcppgkhkijejoaa
