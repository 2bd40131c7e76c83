/- The plain law: what is reached in a store. No program here. -/
import Derived.Test.YtcppgkhkijejoaaStoreP
namespace Go.Proofs.Ytcppgkhkijejoaa
open Go.RowKit
set_option linter.unusedVariables false
set_option linter.unusedSimpArgs false

/-- the links that are followed: all, or those to parents -/
def follow (o : Obj) (par : Bool) : List Int := if par then o.links.drop 1 else o.links
/-- does object i link to object j? -/
def edgeB (l : List Obj) (par : Bool) (i j : Nat) : Bool := decide (j < l.length) && (follow (obj l i) par).any (fun x => x == (obj l j).id)

inductive Rch (l : List Obj) (par : Bool) : Nat → Nat → Prop
  | refl (i : Nat) : Rch l par i i
  | step {i j k : Nat} : edgeB l par i j = true → Rch l par j k → Rch l par i k

theorem Rch.trans {l : List Obj} {par : Bool} {i j k : Nat} (h : Rch l par i j) (h' : Rch l par j k) : Rch l par i k := by
  induction h with
  | refl => exact h'
  | step e _ ih => exact .step e (ih h')
theorem Rch.snoc {l : List Obj} {par : Bool} {i j k : Nat} (h : Rch l par i j) (e : edgeB l par j k = true) : Rch l par i k := h.trans (.step e (.refl _))

/-- what a right store gives -/
structure Right (l : List Obj) : Prop where
  rising : Rising l
  each : ∀ i, i < l.length → checkObj (obj l i) = 0
  link : ∀ i, i < l.length → ∀ k, k < (obj l i).links.length → linkErr (obj l i) k (kindOf (l.take i) (nth (obj l i).links k)) = 0
  many : l.length ≤ 40

theorem right_of {l : List Obj} (h : checkStore l = 0) : Right l := by
  obtain ⟨h1, h2⟩ := checkStore_zero h
  exact ⟨checkStore_rising h, fun i hi => (objErr_zero (scan_zero h2 i hi)).1, fun i hi => (objErr_zero (scan_zero h2 i hi)).2.2, h1⟩

theorem kind_place {l : List Obj} {id : Int} (h : kindOf l id ≠ 0) : ∃ j, j < l.length ∧ (obj l j).id = id ∧ kindOf l id = (obj l j).kind := by
  unfold kindOf at h ⊢
  cases hf : l.find? (fun o => o.id == id) with
  | none => rw [hf] at h; exact absurd rfl h
  | some o =>
    have h1 := List.mem_of_find?_eq_some hf
    have h2 := List.find?_some hf
    obtain ⟨j, hj, rfl⟩ := List.getElem_of_mem h1
    exact ⟨j, hj, by rw [obj_lt hj]; simpa using h2, by rw [obj_lt hj]⟩

/-- a link leads to an object ahead -/
theorem Right.linked {l : List Obj} (h : Right l) {i k : Nat} (hi : i < l.length) (hk : k < (obj l i).links.length) :
    ∃ j, j < i ∧ (obj l j).id = nth (obj l i).links k ∧ linkErr (obj l i) k (obj l j).kind = 0 := by
  have h1 := h.link i hi k hk
  have hne : kindOf (l.take i) (nth (obj l i).links k) ≠ 0 := fun e => by rw [e] at h1; exact absurd h1 (by unfold linkErr; simp)
  obtain ⟨j, hj, hid, hkd⟩ := kind_place hne
  have hji : j < i := by simp at hj; omega
  rw [obj_take hji] at hid hkd
  exact ⟨j, hji, hid, by rw [hkd] at h1; exact h1⟩

theorem Rising.inj {l : List Obj} (h : Rising l) {i j : Nat} (hi : i < l.length) (hj : j < l.length) (e : (obj l i).id = (obj l j).id) : i = j := by
  rcases Nat.lt_trichotomy i j with h1 | h1 | h1
  · have := h i j h1 hj; omega
  · exact h1
  · have := h j i h1 hi; omega

theorem Rising.lo_self {l : List Obj} (h : Rising l) {i : Nat} (hi : i < l.length) : lo l (obj l i).id = i :=
  lo_eq (Nat.le_of_lt hi) (fun j hj => h j i hj hi) (fun j hij hj => by
    rcases Nat.lt_or_ge i j with h' | h'
    · have := h i j h' hj; omega
    · have e : j = i := by omega
      subst e; omega)
theorem Rising.isAt_self {l : List Obj} (h : Rising l) {i : Nat} (hi : i < l.length) : isAt l (obj l i).id = true := by
  unfold isAt; rw [h.lo_self hi]; simp [hi]
theorem Rising.at_self {l : List Obj} (h : Rising l) {i : Nat} (hi : i < l.length) : atOf l (obj l i).id = i := by
  rw [h.at_, h.isAt_self hi, h.lo_self hi]; rfl
theorem Rising.kind_self {l : List Obj} (h : Rising l) {i : Nat} (hi : i < l.length) : kindOf l (obj l i).id = (obj l i).kind := by
  rw [h.kind, h.isAt_self hi, h.lo_self hi]; rfl

theorem follow_mem {o : Obj} {par : Bool} {x : Int} (h : x ∈ follow o par) : ∃ k, k < o.links.length ∧ x = nth o.links k ∧ (par = true → 0 < k) := by
  cases par
  · obtain ⟨k, hk, rfl⟩ := List.getElem_of_mem (show x ∈ o.links from h)
    exact ⟨k, hk, by rw [nth_lt hk], fun e => by cases e⟩
  · have h' : x ∈ o.links.drop 1 := h
    obtain ⟨k, hk, rfl⟩ := List.getElem_of_mem h'
    simp at hk
    exact ⟨k + 1, by omega, by rw [nth_lt (by omega), List.getElem_drop]; congr 1; omega, fun _ => by omega⟩

/-- an edge leads back -/
theorem Right.edge_lt {l : List Obj} (h : Right l) {par : Bool} {i j : Nat} (hi : i < l.length) (e : edgeB l par i j = true) : j < i := by
  simp only [edgeB, Bool.and_eq_true, decide_eq_true_eq, List.any_eq_true, beq_iff_eq] at e
  obtain ⟨hj, x, hx, hxe⟩ := e
  obtain ⟨k, hk, rfl, _⟩ := follow_mem hx
  obtain ⟨j', hj', hid, _⟩ := h.linked hi hk
  have := h.rising.inj hj (by omega) (hxe.symm.trans hid.symm)
  omega
theorem Right.rch_le {l : List Obj} (h : Right l) {par : Bool} {i j : Nat} (hi : i < l.length) (e : Rch l par i j) : j ≤ i := by
  induction e with
  | refl => exact Nat.le_refl _
  | step e _ ih => have := h.edge_lt hi e; have := ih (by omega); omega
theorem Right.rch_lt {l : List Obj} (h : Right l) {par : Bool} {i j : Nat} (hi : i < l.length) (e : Rch l par i j) : j < l.length := by have := h.rch_le hi e; omega
theorem linkErr_commit {o : Obj} {k : Nat} {kind : Int} (h3 : o.kind = 3) : linkErr o k kind = if kind = 0 then 5 else if (kind = 2 ∧ k = 0) ∨ (kind = 3 ∧ 0 < k) then 0 else 7 := by
  unfold linkErr; simp [h3]
/-- a parent is a commit -/
theorem Right.edge_kind {l : List Obj} (h : Right l) {i j : Nat} (hi : i < l.length) (hk : (obj l i).kind = 3) (e : edgeB l true i j = true) : (obj l j).kind = 3 := by
  simp only [edgeB, Bool.and_eq_true, decide_eq_true_eq, List.any_eq_true, beq_iff_eq] at e
  obtain ⟨hj, x, hx, hxe⟩ := e
  obtain ⟨k, hk', rfl, h0⟩ := follow_mem hx
  obtain ⟨j', hj', hid, hle⟩ := h.linked hi hk'
  have := h.rising.inj hj (by omega) (hxe.symm.trans hid.symm)
  subst this
  rw [linkErr_commit hk] at hle
  have h0' := h0 rfl
  by_cases h1 : (obj l j).kind = 0
  · rw [if_pos h1] at hle; exact absurd hle (by decide)
  · rw [if_neg h1] at hle
    by_cases h2 : ((obj l j).kind = 2 ∧ k = 0) ∨ ((obj l j).kind = 3 ∧ 0 < k)
    · omega
    · rw [if_neg h2] at hle; exact absurd hle (by decide)

/-- the reference's sweep: from the greatest place on, what is linked is marked too -/
def sweep (l : List Obj) (par : Bool) : Nat → (Nat → Bool) → (Nat → Bool)
  | 0, M => M
  | i + 1, M => sweep l par i (fun j => M j || (M i && edgeB l par i j))

/-- which places are tips -/
def tipB (l : List Obj) (tips : List Int) (j : Nat) : Bool := tips.any (fun x => x == (obj l j).id)
/-- C1 -/
def reachB (l : List Obj) (par : Bool) (tips : List Int) : Nat → Bool := sweep l par l.length (tipB l tips)

theorem sweep_iff {l : List Obj} (h : Right l) {par : Bool} : ∀ (n : Nat) (M : Nat → Bool), n ≤ l.length → (∀ a b, n ≤ a → a < l.length → M a = true → edgeB l par a b = true → M b = true) →
    ∀ j, j < l.length → (sweep l par n M j = true ↔ ∃ i, i < l.length ∧ M i = true ∧ Rch l par i j) := by
  intro n
  induction n with
  | zero =>
    intro M hn hcl j hj
    constructor
    · intro e; exact ⟨j, hj, e, .refl _⟩
    · rintro ⟨i, hi, hM, hr⟩
      show M j = true
      induction hr with
      | refl => exact hM
      | step e _ ih => exact ih hj (by have := h.edge_lt hi e; omega) (hcl _ _ (Nat.zero_le _) hi hM e)
  | succ n ih =>
    intro M hn hcl j hj
    have hcl' : ∀ a b, n ≤ a → a < l.length → (M a || (M n && edgeB l par n a)) = true → edgeB l par a b = true → (M b || (M n && edgeB l par n b)) = true := by
      intro a b hna ha hM e
      simp only [Bool.or_eq_true, Bool.and_eq_true] at hM ⊢
      rcases hM with hM | ⟨hM, e2⟩
      · rcases Nat.lt_or_ge n a with h1 | h1
        · exact .inl (hcl a b h1 ha hM e)
        · have : a = n := by omega
          subst this; exact .inr ⟨hM, e⟩
      · have := h.edge_lt (by omega) e2; omega
    rw [sweep, ih _ (by omega) hcl' j hj]
    constructor
    · rintro ⟨i, hi, hM, hr⟩
      simp only [Bool.or_eq_true, Bool.and_eq_true] at hM
      rcases hM with hM | ⟨hM, e⟩
      · exact ⟨i, hi, hM, hr⟩
      · exact ⟨n, by omega, hM, .step e hr⟩
    · rintro ⟨i, hi, hM, hr⟩
      exact ⟨i, hi, by simp [hM], hr⟩

theorem reach_iff {l : List Obj} (h : Right l) {par : Bool} {tips : List Int} {j : Nat} (hj : j < l.length) :
    reachB l par tips j = true ↔ ∃ i, i < l.length ∧ tipB l tips i = true ∧ Rch l par i j :=
  sweep_iff h l.length _ (Nat.le_refl _) (fun a b h1 h2 => by omega) j hj

def partOf (l : List Obj) (tips : List Int) : List Obj := ((List.range l.length).filter (reachB l false tips)).map (obj l)
/-- what is wrong with ids of a store -/
def thereErr (l : List Obj) (ids : List Int) : Int := if checkStore l ≠ 0 then checkStore l else if ids.any (fun x => kindOf l x == 0) then 5 else 0
def behindErr (l : List Obj) (old newer : Int) : Int :=
  if thereErr l [old, newer] ≠ 0 then thereErr l [old, newer] else if kindOf l old ≠ 3 ∨ kindOf l newer ≠ 3 then 7 else 0
def behindB (l : List Obj) (old newer : Int) : Bool := reachB l true [newer] (atOf l old).toNat

end Go.Proofs.Ytcppgkhkijejoaa
