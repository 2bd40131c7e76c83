
/- A region that draws its order: its first m operations write nothing that was there and are walked once each, whatever the order; the others wait for all of these. What each of the m laid, lies apart from what the others laid. No program here. -/
import Derived.Test.YtemdnkoknjmheaaGreatBase
namespace Go.Proofs.YtemdnkoknjmheaaGreat
open Go.RowKit
set_option linter.unusedVariables false
set_option linter.unusedSimpArgs false

/-- what is known of a value that an operation brought, which laid the blocks from lo to hi -/
structure FactI where
  holds : Nat → Nat → Value → World → Prop
  mono : ∀ lo hi v x y, holds lo hi v x → Below x.heap.size x y → holds lo hi v y
def FactI.of (f : Fact) : FactI := ⟨fun _ _ v x => f.holds v x, fun _ _ v x y h hb => f.mono v x y h hb⟩
def FactI.is (v0 : Value) : FactI := ⟨fun _ _ v _ => v = v0, fun _ _ _ _ _ h _ => h⟩
def FactI.any : FactI := ⟨fun _ _ _ _ => True, fun _ _ _ _ _ _ _ => trivial⟩
def factsI (l : List FactI) (i : Nat) : FactI := l.getD i FactI.any

def HoldsI (Φ : Nat → FactI) (vals : Nat → Value) (iv : Nat → Nat × Nat) (x : World) : List (Nat × Option Tmp) → Prop
  | [] => True
  | jd :: js => (Φ jd.1).holds (iv jd.1).1 (iv jd.1).2 (vals jd.1) x ∧ HoldsI Φ vals iv x js
def slotsTo (ops : Array Oper) (m : Nat) : List (Nat × Option Tmp) := (List.range m).map fun j => (j, (ops[j]?).bind (·.dst))
def headListed (n m : Nat) : Array Bool := (List.range n).toArray.map fun j => decide (j < m)

def flowOk2 (ops : Array Oper) (n m : Nat) : Bool :=
  ((List.range m).all fun i => match ops[i]? with
    | none => false
    | some o => !isDefer o.op && (match o.dst with | some d => decide (d < n) | none => true) &&
      ((List.range ops.size).all fun j => j == i || o.dst.isNone || (ops[j]?).bind (·.dst) != o.dst) &&
      (waits ops o).all fun jd => decide (jd.1 < i)) &&
  (List.range ops.size).all fun j => decide (j < m) || match ops[j]? with
    | none => true
    | some o => (List.range m).all fun i => (waits ops o).any fun jd => jd.1 == i

section
variable {P : Program} {ops : Array Oper} {Q : Exit → Act → World → Prop} {a0 : Act} {R : World → Prop} {Φ : Nat → FactI} {base : Nat}

theorem flow2_spec {n m : Nat} (h : flowOk2 ops n m = true) {i : Nat} (hi : i < m) : ∃ o, ops[i]? = some o ∧
    isDefer o.op = false ∧ (∀ d, o.dst = some d → d < n) ∧
    (∀ (j : Nat) d, j ≠ i → o.dst = some d → (ops[j]?).bind (fun q : Oper => q.dst) ≠ some d) ∧ ∀ jd ∈ waits ops o, jd.1 < i := by
  unfold flowOk2 at h
  rw [Bool.and_eq_true] at h
  have h1 := List.all_eq_true.1 h.1 i (List.mem_range.2 hi)
  cases ho : ops[i]? with
  | none => simp [ho] at h1
  | some o =>
    simp only [ho, Bool.and_eq_true, Bool.not_eq_true'] at h1
    obtain ⟨⟨⟨h1, h2⟩, h4⟩, h5⟩ := h1
    refine ⟨o, rfl, h1, fun d hd => ?_, fun j d hj hd => ?_, fun jd hjd => ?_⟩
    · rw [hd] at h2; simpa using h2
    · intro e
      have h6 := List.all_eq_true.1 h4 j (List.mem_range.2 (by
        rcases Nat.lt_or_ge j ops.size with h | h
        · exact h
        · rw [Array.getElem?_eq_none h] at e; cases e))
      rw [e, hd] at h6
      simp [hj] at h6
    · have := List.all_eq_true.1 h5 jd hjd
      simpa using this
theorem flow2_tail {n m : Nat} (h : flowOk2 ops n m = true) {j : Nat} {o : Oper} (ho : ops[j]? = some o) (hj : m ≤ j) : ∀ i, i < m → ∃ jd ∈ waits ops o, jd.1 = i := by
  unfold flowOk2 at h
  rw [Bool.and_eq_true] at h
  have hlt : j < ops.size := (Array.getElem?_eq_some_iff.1 ho).1
  have h1 := List.all_eq_true.1 h.2 j (List.mem_range.2 hlt)
  simp only [ho, Bool.or_eq_true, decide_eq_true_eq] at h1
  have h2 := h1.resolve_left (by omega)
  intro i hi
  have h3 := List.all_eq_true.1 h2 i (List.mem_range.2 hi)
  obtain ⟨jd, hjd, e⟩ := List.any_eq_true.1 h3
  exact ⟨jd, hjd, by simpa using e⟩

def StepOkI (P : Program) (ops : Array Oper) (a0 : Act) (R : World → Prop) (Φ : Nat → FactI) (i : Nat) (o : Oper) (js : List (Nat × Option Tmp)) : Prop :=
  ∀ (vals : Nat → Value) (iv : Nat → Nat × Nat) (x : World), In R x → HoldsI Φ vals iv x js → ∀ K : Act → World → Prop,
    Hid (∀ a' x', a'.defers = (puts a0 vals js).defers → Below x.heap.size x x' → (Φ i).holds x.heap.size x'.heap.size (slotOf o.dst a') x' → K a' x') →
    if Region.wanted o (yielded ops (puts a0 vals js).tmps) = true then Oper.wp P o (puts a0 vals js) x K (fun _ _ _ => False) else K ((puts a0 vals js).put o.dst undef) x

structure FlowAtI (ops : Array Oper) (a0 : Act) (Φ : Nat → FactI) (base m : Nat) (listed : Array Bool) (a : Act) (x : World) (vals : Nat → Value) (iv : Nat → Nat × Nat) : Prop where
  defers : a.defers = a0.defers
  size : a.tmps.size = a0.tmps.size
  here : ∀ (j : Nat) d, (ops[j]?).bind (fun q : Oper => q.dst) = some d → listed.getD j true = true → a.tmps[d]? = if d < a0.tmps.size then some (vals j) else none
  other : ∀ t, (∀ j : Nat, listed.getD j true = true → (ops[j]?).bind (fun q : Oper => q.dst) ≠ some t) → a.tmps[t]? = a0.tmps[t]?
  facts : ∀ j, j < m → listed.getD j true = true → (Φ j).holds (iv j).1 (iv j).2 (vals j) x
  closed : ∀ j o, ops[j]? = some o → listed.getD j true = true → ∀ jd ∈ waits ops o, listed.getD jd.1 true = true
  tail : ∀ j, m ≤ j → j < ops.size → listed.getD j true = false
  inter : ∀ j, j < m → listed.getD j true = true → base ≤ (iv j).1 ∧ (iv j).1 ≤ (iv j).2 ∧ (iv j).2 ≤ x.heap.size
  disj : ∀ j k, j < m → k < m → j ≠ k → listed.getD j true = true → listed.getD k true = true → (iv j).2 ≤ (iv k).1 ∨ (iv k).2 ≤ (iv j).1

theorem holdsI_of {vals : Nat → Value} {iv : Nat → Nat × Nat} {x : World} : ∀ {js : List (Nat × Option Tmp)}, (∀ jd ∈ js, (Φ jd.1).holds (iv jd.1).1 (iv jd.1).2 (vals jd.1) x) → HoldsI Φ vals iv x js
  | [], _ => trivial
  | _ :: _, h => ⟨h _ List.mem_cons_self, holdsI_of fun jd hjd => h jd (List.mem_cons_of_mem _ hjd)⟩

theorem FlowAtI.same {n m : Nat} (hok : flowOk2 ops n m = true) {listed : Array Bool} {a : Act} {x : World} {vals : Nat → Value} {iv : Nat → Nat × Nat} (h : FlowAtI ops a0 Φ base m listed a x vals iv) {i : Nat} {o : Oper} (ho : ops[i]? = some o)
    (hr : i ∈ Region.ready .any ops listed) {js : List (Nat × Option Tmp)} (hjs : fitB ops i o js = true) (hmw : ∀ jd ∈ js, jd.1 < m) (t : Tmp) (ht : t ∈ o.looksAt ops) : (puts a0 vals js).tmps[t]? = a.tmps[t]? := by
  obtain ⟨h3, hsub⟩ := fit_spec hjs
  have hw := fun jd (hjd : jd ∈ js) => waits_ready ho hr jd (hsub jd hjd)
  have hl := (mem_ready.1 hr).1
  have huniq : ∀ j j' : Nat, j < m → (ops[j]?).bind (fun q : Oper => q.dst) = some t → (ops[j']?).bind (fun q : Oper => q.dst) = some t → j' = j := fun j j' hjm hj hj' => by
    by_cases hne : j' = j
    · exact hne
    · obtain ⟨oj, hoj, _, _, h4, _⟩ := flow2_spec hok hjm
      exact absurd hj' (h4 j' t hne (by rw [hoj] at hj; exact hj))
  have hout : (∀ jd ∈ js, jd.2 ≠ some t) → (∀ j : Nat, listed.getD j true = true → (ops[j]?).bind (fun q : Oper => q.dst) ≠ some t) → (puts a0 vals js).tmps[t]? = a.tmps[t]? := fun h1 h2 => by
    rw [puts_get vals t undef _ _ (fun jd hjd e => (h1 jd hjd e).elim), if_neg (by rintro ⟨jd, hjd, e⟩; exact h1 jd hjd e)]
    exact (h.other t h2).symm
  have hlm : ∀ j : Nat, listed.getD j true = true → (ops[j]?).bind (fun q : Oper => q.dst) = some t → j < m := fun j hlj hj => by
    rcases Nat.lt_or_ge j m with h' | h'
    · exact h'
    · have hjs : j < ops.size := by
        rcases Nat.lt_or_ge j ops.size with h2 | h2
        · exact h2
        · rw [Array.getElem?_eq_none h2] at hj; cases hj
      rw [h.tail j h' hjs] at hlj; cases hlj
  by_cases hj : ∃ j : Nat, listed.getD j true = true ∧ (ops[j]?).bind (fun q : Oper => q.dst) = some t
  · obtain ⟨j, hlj, hj⟩ := hj
    have hjm := hlm j hlj hj
    by_cases hm : (j, some t) ∈ js
    · rw [puts_get vals t (vals j) _ _ (fun jd hjd e => by
        have e1 := (hw jd hjd).2
        rw [e] at e1
        rw [huniq j jd.1 hjm hj e1.symm])]
      rw [if_pos ⟨_, hm, rfl⟩, h.here j t hj hlj]
    · have hlat := (h3 t ht j hj).resolve_left hm
      exfalso
      unfold laterB at hlat
      rw [Bool.or_eq_true] at hlat
      rcases hlat with hlat | hlat
      · have : j = i := by simpa using hlat
        subst this; rw [hl] at hlj; cases hlj
      · cases hoj : ops[j]? with
        | none => rw [hoj] at hj; cases hj
        | some oj =>
          rw [hoj] at hlat
          obtain ⟨jd, hjd, e3⟩ := List.any_eq_true.1 hlat
          have := h.closed j oj hoj hlj jd hjd
          rw [show jd.1 = i by simpa using e3, hl] at this
          cases this
  · refine hout (fun jd hjd e => hj ⟨jd.1, getD_true_of (hw jd hjd).1, by rw [← (hw jd hjd).2]; exact e⟩) (fun j hlj e => hj ⟨j, hlj, e⟩)

theorem FlowAtI.next {n m : Nat} (hok : flowOk2 ops n m = true) {listed : Array Bool} {a : Act} {x x' : World} {vals : Nat → Value} {iv : Nat → Nat × Nat} (h : FlowAtI ops a0 Φ base m listed a x vals iv) {i : Nat} {o : Oper} (ho : ops[i]? = some o)
    (hr : i ∈ Region.ready .any ops listed) (him : i < m) (hbase : base ≤ x.heap.size) (hb : Below x.heap.size x x') {v : Value} (hv : (Φ i).holds x.heap.size x'.heap.size v x') :
    FlowAtI ops a0 Φ base m (listed.setIfInBounds i true) (a.put o.dst v) x' (fun j => if j = i then v else vals j) (fun j => if j = i then (x.heap.size, x'.heap.size) else iv j) := by
  obtain ⟨o', ho', _, _, h4, _⟩ := flow2_spec hok him
  rw [ho] at ho'; cases ho'
  have hio : (ops[i]?).bind (fun q : Oper => q.dst) = o.dst := by rw [ho]; rfl
  have hl := (mem_ready.1 hr).1
  have hlt : i < listed.size := by
    rcases Nat.lt_or_ge i listed.size with h | h
    · exact h
    · rw [Array.getD_eq_getD_getElem?, Array.getElem?_eq_none h] at hl; cases hl
  refine ⟨?_, ?_, fun j d hj hlj => ?_, fun t ht => ?_, fun j hj hlj => ?_, fun j oj hoj hlj jd hjd => ?_, fun j hj hjs => ?_, fun j hj hlj => ?_, fun j k hj hk hjk hlj hlk => ?_⟩
  · rw [← h.defers]; cases o.dst <;> rfl
  · rw [← h.size]; cases o.dst <;> simp [Act.put]
  · by_cases e : j = i
    · subst e
      rw [hio] at hj
      rw [hj, if_pos rfl, ← h.size]
      simp [Act.put, Array.getElem?_setIfInBounds]
    · have hl2 := (getD_set_iff hlj).resolve_left e
      rw [if_neg e, ← h.here j d hj hl2]
      cases hd : o.dst with
      | none => rfl
      | some d' =>
        have hne : d' ≠ d := fun e' => by subst e'; exact h4 j d' e hd hj
        simp [Act.put, Array.getElem?_setIfInBounds_ne hne]
  · rw [← h.other t (fun j hj => ht j (getD_set_keep hj))]
    have h5 := ht i (getD_set_same hlt)
    rw [hio] at h5
    cases hd : o.dst with
    | none => rfl
    | some d' =>
      have hne : d' ≠ t := fun e' => h5 (by rw [hd, e'])
      simp [Act.put, Array.getElem?_setIfInBounds_ne hne]
  · by_cases e : j = i
    · subst e; simp only [if_true]; exact hv
    · simp only [if_neg e]; exact (Φ j).mono _ _ _ _ _ (h.facts j hj ((getD_set_iff hlj).resolve_left e)) hb
  · refine getD_set_keep ?_
    by_cases e : j = i
    · subst e
      rw [ho] at hoj; cases hoj
      exact getD_true_of (waits_ready ho hr jd hjd).1
    · exact h.closed j oj hoj ((getD_set_iff hlj).resolve_left e) jd hjd
  · rw [getD_set_ne true (by omega)]; exact h.tail j hj hjs
  · by_cases e : j = i
    · subst e; simp only [if_true]; exact ⟨hbase, hb.size, Nat.le_refl _⟩
    · simp only [if_neg e]
      have := h.inter j hj ((getD_set_iff hlj).resolve_left e)
      have := hb.size
      omega
  · by_cases e1 : j = i
    · subst e1
      have e2 : k ≠ j := fun e => hjk e.symm
      simp only [if_true, if_neg e2]
      exact .inr (h.inter k hk ((getD_set_iff hlk).resolve_left e2)).2.2
    · by_cases e2 : k = i
      · subst e2
        simp only [if_true, if_neg e1]
        exact .inl (h.inter j hj ((getD_set_iff hlj).resolve_left e1)).2.2
      · simp only [if_neg e1, if_neg e2]
        exact h.disj j k hj hk hjk ((getD_set_iff hlj).resolve_left e1) ((getD_set_iff hlk).resolve_left e2)

theorem head_size (n m : Nat) : (headListed n m).size = n := by unfold headListed; simp
theorem head_get {n m j : Nat} (h : j < n) : (headListed n m)[j]? = some (decide (j < m)) := by unfold headListed; simp [h]
theorem head_count : ∀ (n m : Nat), m ≤ n → (headListed n m).toList.count false = n - m := by
  intro n m h
  unfold headListed
  simp only [Array.toList_map, List.toList_toArray]
  rw [List.count_eq_countP, List.countP_map]
  have : ∀ k, ((List.range k).countP ((fun b => b == false) ∘ fun j => decide (j < m))) = k - m := by
    intro k
    induction k with
    | zero => simp
    | succ k ih =>
      rw [List.range_succ, List.countP_append, ih]
      by_cases hk : k < m
      · simp [hk]; omega
      · simp [hk]; omega
  exact this n

theorem flow2_any {n m : Nat} (hok : flowOk2 ops n m = true) (hmn : m ≤ ops.size) (ha : a0.tmps.size = n) (hR : ∀ x y, In R x → Below x.heap.size x y → In R y) (hRB : ∀ x, In R x → base ≤ x.heap.size)
    (steps : ∀ i o, i < m → ops[i]? = some o → ∃ js, fitB ops i o js = true ∧ StepOkI P ops a0 R Φ i o js)
    (post : ∀ vals iv x, In R x → HoldsI Φ vals iv x (slotsTo ops m) → (∀ j k, j < m → k < m → j ≠ k → (iv j).2 ≤ (iv k).1 ∨ (iv k).2 ≤ (iv j).1) → (∀ j, j < m → base ≤ (iv j).1 ∧ (iv j).1 ≤ (iv j).2 ∧ (iv j).2 ≤ x.heap.size) →
      wpAny P .any ops Q (ops.size - m) (headListed ops.size m) (puts a0 vals (slotsTo ops m)) x) :
    ∀ (fuel : Nat) (listed : Array Bool) (a : Act) (x : World) (vals : Nat → Value) (iv : Nat → Nat × Nat), listed.size = ops.size → FlowAtI ops a0 Φ base m listed a x vals iv → In R x → listed.toList.count false = fuel →
      wpAny P .any ops Q fuel listed a x := by
  have hend : ∀ (listed : Array Bool) (a : Act) (x : World) (vals : Nat → Value) (iv : Nat → Nat × Nat), listed.size = ops.size → FlowAtI ops a0 Φ base m listed a x vals iv → In R x → (∀ j, j < m → listed.getD j true = true) →
      wpAny P .any ops Q (listed.toList.count false) listed a x := by
    intro listed a x vals iv hs h hx hall
    have hslots : ∀ jd ∈ slotsTo ops m, jd.1 < m ∧ jd.2 = (ops[jd.1]?).bind (fun q : Oper => q.dst) := fun jd hjd => by
      obtain ⟨j, hj, rfl⟩ := List.mem_map.1 hjd
      exact ⟨List.mem_range.1 hj, rfl⟩
    have hp := post vals iv x hx (holdsI_of fun jd hjd => h.facts _ (hslots jd hjd).1 (hall _ (hslots jd hjd).1)) (fun j k hj hk hjk => h.disj j k hj hk hjk (hall j hj) (hall k hk)) (fun j hj => h.inter j hj (hall j hj))
    have el : listed = headListed ops.size m := by
      apply Array.ext_getElem?
      intro j
      by_cases hj : j < ops.size
      · rw [head_get hj]
        have e1 : listed[j]? = some (listed.getD j true) := by
          rw [Array.getD_eq_getD_getElem?, Array.getElem?_eq_getElem (show j < listed.size by omega)]; rfl
        rw [e1]
        by_cases hjm : j < m
        · rw [hall j hjm]; simp [hjm]
        · rw [h.tail j (by omega) hj]; simp [hjm]
      · rw [Array.getElem?_eq_none (by omega), Array.getElem?_eq_none (by rw [head_size]; omega)]
    have e : puts a0 vals (slotsTo ops m) = a := by
      have e1 : (puts a0 vals (slotsTo ops m)).tmps = a.tmps := by
        apply Array.ext_getElem?
        intro t
        by_cases hj : ∃ j : Nat, j < m ∧ (ops[j]?).bind (fun q : Oper => q.dst) = some t
        · obtain ⟨j, hjm, hj⟩ := hj
          rw [puts_get vals t (vals j) _ _ (fun jd hjd e => by
            have e1 := (hslots jd hjd).2
            rw [e] at e1
            by_cases hne : jd.1 = j
            · rw [hne]
            · obtain ⟨oj, hoj, _, _, h4, _⟩ := flow2_spec hok hjm
              exact absurd e1.symm (h4 jd.1 t hne (by rw [hoj] at hj; exact hj)))]
          rw [if_pos ⟨(j, some t), List.mem_map.2 ⟨j, List.mem_range.2 hjm, by rw [hj]⟩, rfl⟩, h.here j t hj (hall j hjm)]
        · rw [puts_get vals t undef _ _ (fun jd hjd e => (hj ⟨jd.1, (hslots jd hjd).1, by rw [← (hslots jd hjd).2]; exact e⟩).elim), if_neg (by rintro ⟨jd, hjd, e⟩; exact hj ⟨jd.1, (hslots jd hjd).1, by rw [← (hslots jd hjd).2]; exact e⟩)]
          refine (h.other t (fun j hlj e => hj ⟨j, ?_, e⟩)).symm
          rcases Nat.lt_or_ge j m with h' | h'
          · exact h'
          · have hjs : j < ops.size := by
              rcases Nat.lt_or_ge j ops.size with h2 | h2
              · exact h2
              · rw [Array.getElem?_eq_none h2] at e; cases e
            rw [h.tail j h' hjs] at hlj; cases hlj
      have e2 : (puts a0 vals (slotsTo ops m)).defers = a.defers := by rw [puts_defers, h.defers]
      generalize puts a0 vals (slotsTo ops m) = b at *
      cases a; cases b; simp_all
    rw [e] at hp
    rw [el, head_count _ _ hmn]
    exact hp
  intro fuel
  induction fuel with
  | zero =>
    intro listed a x vals iv hs h hx hc
    have hall : ∀ j, j < m → listed.getD j true = true := fun j hj => by
      cases hl : listed.getD j true
      · have : false ∈ listed.toList := by
          rw [Array.getD_eq_getD_getElem?] at hl
          cases e : listed[j]? with
          | none => rw [e] at hl; cases hl
          | some b => rw [e] at hl; simp at hl; subst hl; exact Array.mem_toList_iff.2 (Array.mem_of_getElem? e)
        have := List.count_pos_iff.2 this
        omega
      · rfl
    have := hend listed a x vals iv hs h hx hall
    rw [hc] at this; exact this
  | succ fuel ih =>
    intro listed a x vals iv hs h hx hc
    by_cases hall : ∀ j, j < m → listed.getD j true = true
    · have := hend listed a x vals iv hs h hx hall
      rw [hc] at this; exact this
    · have hex : ∃ j, j < m ∧ listed.getD j true = false := by
        by_cases hne : ∃ j, j < m ∧ listed.getD j true = false
        · exact hne
        · exact absurd (fun j hj => by
            cases hl : listed.getD j true
            · exact absurd ⟨j, hj, hl⟩ hne
            · rfl) hall
      have hready : Region.ready .any ops listed ≠ [] := by
        obtain ⟨j, hj, hl⟩ := hex
        have : ∀ k, k < m → listed.getD k true = false → ∃ i, i ∈ Region.ready .any ops listed := by
          intro k
          induction k using Nat.strongRecOn with
          | ind k ihk =>
            intro hk hlk
            obtain ⟨o, ho, _, _, _, h5⟩ := flow2_spec hok hk
            by_cases hw : ∀ jd ∈ waits ops o, listed.getD jd.1 true = true
            · refine ⟨k, mem_ready.2 ⟨hlk, o, ho, fun e he hb => ?_⟩⟩
              have hm : (e.on, (ops[e.on]?).bind (·.dst)) ∈ waits ops o := List.mem_map.2 ⟨e, List.mem_filter.2 ⟨Array.mem_toList_iff.2 he, hb⟩, rfl⟩
              have h6 := hw _ hm
              have hlt := h5 _ hm
              rw [Array.getD_eq_getD_getElem?] at h6 ⊢
              cases e6 : listed[e.on]? with
              | none => rw [Array.getElem?_eq_none_iff] at e6; simp only at hlt; omega
              | some b => simp only at h6; rw [e6] at h6; simpa using h6
            · have hw' : ∃ jd ∈ waits ops o, listed.getD jd.1 true = false := by
                by_cases hne : ∃ jd ∈ waits ops o, listed.getD jd.1 true = false
                · exact hne
                · exact absurd (fun jd hjd => by
                    cases hl : listed.getD jd.1 true
                    · exact absurd ⟨jd, hjd, hl⟩ hne
                    · rfl) hw
              obtain ⟨jd, hjd, hl'⟩ := hw'
              have hlt := h5 jd hjd
              exact ihk jd.1 hlt (by omega) hl'
        obtain ⟨i, hi⟩ := this j hj hl
        intro e; rw [e] at hi; cases hi
      refine ⟨fun hr => absurd hr hready, fun i hi => ?_⟩
      obtain ⟨hl, o, ho, _⟩ := mem_ready.1 hi
      have hw := waits_ready ho hi
      have him : i < m := by
        rcases Nat.lt_or_ge i m with h' | h'
        · exact h'
        · exfalso
          obtain ⟨j, hj, hlj⟩ := hex
          obtain ⟨jd, hjd, e⟩ := flow2_tail hok ho h' j hj
          have := getD_true_of (hw jd hjd).1
          rw [e, hlj] at this; cases this
      obtain ⟨o', ho', hdef, hdst, _, h5⟩ := flow2_spec hok him
      rw [ho] at ho'; cases ho'
      obtain ⟨js, hjs, hstep⟩ := steps i o him ho
      have hsub := (fit_spec hjs).2
      have hsame := fun t ht => h.same hok ho hi hjs (fun jd hjd => by have := h5 jd (hsub jd hjd); omega) t ht
      have hst := hstep vals iv x hx (holdsI_of fun jd hjd => h.facts _ (by have := h5 jd (hsub jd hjd); omega) (getD_true_of (hw jd (hsub jd hjd)).1))
      have hcount : (listed.setIfInBounds i true).toList.count false = fuel := by
        have hli : listed.toList[i]? = some false := by
          rw [Array.getD_eq_getD_getElem?] at hl
          cases e : listed[i]? with
          | none => rw [e] at hl; cases hl
          | some b => rw [e] at hl; simp at hl; subst hl; simpa using e
        have := count_set hli
        rw [Array.toList_setIfInBounds]
        omega
      have hgo : ∀ v x', Below x.heap.size x x' → (Φ i).holds x.heap.size x'.heap.size v x' → wpAny P .any ops Q fuel (listed.setIfInBounds i true) (a.put o.dst v) x' := fun v x' hb hv =>
        ih _ _ x' _ _ (by simpa using hs) (h.next hok ho hi him (hRB _ hx) hb hv) (hR _ _ hx hb) hcount
      unfold wpOp
      simp only [ho]
      rw [← wanted_congr o hsame]
      have hsz : ∀ d, o.dst = some d → d < (puts a0 vals js).tmps.size := fun d hd => by rw [puts_size, ha]; exact hdst d hd
      by_cases hwt : Region.wanted o (yielded ops (puts a0 vals js).tmps) = true
      · rw [if_pos hwt]
        have h1 := hst (fun a' x' => a'.defers = (puts a0 vals js).defers ∧ (Below x.heap.size x x' ∧ (Φ i).holds x.heap.size x'.heap.size (slotOf o.dst a') x')) (fun a' x' h1 h2 h3 => ⟨h1, h2, h3⟩)
        rw [if_pos hwt] at h1
        refine .inl (Oper.wp_mono (K := fun a' x' => ∃ v, a' = a.put o.dst v ∧ (Below x.heap.size x x' ∧ (Φ i).holds x.heap.size x'.heap.size v x')) ?_ ?_)
        · rintro a' x' ⟨v, rfl, h2, h3⟩
          exact hgo v x' h2 h3
        · exact wp_other (Ψ := fun v x' => Below x.heap.size x x' ∧ (Φ i).holds x.heap.size x'.heap.size v x') hsz (execOp_congr o (fun cs b e => by rw [e] at hdef; cases hdef) (eval_congr o hsame)) h1
      · rw [if_neg hwt]
        have h1 := hst (fun a' x' => Below x.heap.size x x' ∧ (Φ i).holds x.heap.size x'.heap.size (slotOf o.dst a') x') (fun a' x' _ h2 h3 => ⟨h2, h3⟩)
        rw [if_neg hwt] at h1
        obtain ⟨h2, h3⟩ := h1
        cases hd : o.dst with
        | none =>
          rw [hd] at h3
          have := hgo undef x h2 h3
          rw [hd] at this
          exact this
        | some d =>
          have e : slotOf o.dst ((puts a0 vals js).put o.dst undef) = undef := by rw [hd]; simp [slotOf, Act.put, Act.eval, hsz d hd]
          rw [e] at h3
          have := hgo undef x h2 h3
          rw [hd] at this
          exact this

def StepsI (P : Program) (ops : Array Oper) (a0 : Act) (R : World → Prop) (Φ : Nat → FactI) : Nat → List Oper → Prop
  | _, [] => True
  | i, o :: os => (∃ js, fitB ops i o js = true ∧ StepOkI P ops a0 R Φ i o js) ∧ StepsI P ops a0 R Φ (i + 1) os
theorem StepsI.all : ∀ (l : List Oper) (i : Nat), StepsI P ops a0 R Φ i l → ∀ j o, l[j]? = some o → ∃ js, fitB ops (i + j) o js = true ∧ StepOkI P ops a0 R Φ (i + j) o js
  | [], _, _, j, o, h => by simp at h
  | o' :: os, i, ⟨h1, h2⟩, j, o, h => by
    cases j with
    | zero => simp at h; subst h; exact h1
    | succ j => have := StepsI.all os (i + 1) h2 j o (by simpa using h); rw [show i + (j + 1) = i + 1 + j by omega]; exact this
theorem StepsI.nil {i : Nat} : StepsI P ops a0 R Φ i [] := trivial
theorem StepsI.cons {i : Nat} {o : Oper} {os : List Oper} (js : List (Nat × Option Tmp)) (hjs : fitB ops i o js = true) (h : StepOkI P ops a0 R Φ i o js) (hs : StepsI P ops a0 R Φ (i + 1) os) : StepsI P ops a0 R Φ i (o :: os) :=
  ⟨⟨js, hjs, h⟩, hs⟩

theorem wp_flow2 {w0 : World} {id n : Nat} {w : World} (m : Nat) (hm : P.follows .mixedOrders = true) (hok : flowOk2 ops n m = true) (hmn : m ≤ ops.size) (ha : a0.tmps.size = n) (Φ : Nat → FactI) (hR : Cls w0 R) (hw : In R w)
    (sl : List (Nat × Option Tmp)) (hsl : slotsTo ops m = sl) (hd : List Oper) (hhd : ops.toList.take m = hd)
    (steps : StepsI P ops a0 R Φ 0 hd)
    (post : ∀ vals iv x, In R x → HoldsI Φ vals iv x sl → (∀ j k, j < m → k < m → j ≠ k → (iv j).2 ≤ (iv k).1 ∨ (iv k).2 ≤ (iv j).1) → (∀ j, j < m → w0.heap.size ≤ (iv j).1 ∧ (iv j).1 ≤ (iv j).2 ∧ (iv j).2 ≤ x.heap.size) →
      wpAny P .any ops Q (ops.size - m) (headListed ops.size m) (puts a0 vals sl) x) : (Code.region id ops true).wp P Q a0 w := by
  subst hsl
  subst hhd
  refine wp_region_any hm (flow2_any (base := w0.heap.size) hok hmn ha (fun x y hx hb => hR.next x y hx hb) (fun x hx => (hR.below x hx).size) (fun i o hi ho => ?_) post ops.size _ a0 w.drew (fun _ => undef) (fun _ => (0, 0)) (by simp) ?_ (hR.drew _ hw) (by simp))
  · have := StepsI.all _ 0 steps i o (by rw [List.getElem?_take, if_pos hi]; simpa using ho)
    rwa [Nat.zero_add] at this
  · have hf : ∀ j, (Array.replicate ops.size false).getD j true = true → ops.size ≤ j := fun j hj => by
      rcases Nat.lt_or_ge j ops.size with h | h
      · rw [Array.getD_eq_getD_getElem?] at hj; simp [h] at hj
      · exact h
    refine ⟨rfl, rfl, fun j d hj hl => ?_, fun t _ => rfl, fun j hj hl => absurd (hf j hl) (by omega), fun j o ho hl => absurd (hf j hl) (by have := (Array.getElem?_eq_some_iff.1 ho).1; omega), fun j _ hj => ?_, fun j hj hl => absurd (hf j hl) (by omega), fun j k hj _ _ hl _ => absurd (hf j hl) (by omega)⟩
    · rw [Array.getElem?_eq_none (hf j hl)] at hj
      cases hj
    · rw [Array.getD_eq_getD_getElem?]; simp [hj]
end
end Go.Proofs.YtemdnkoknjmheaaGreat
