
/- DiffP: the plain law of what another one has not, objects and names. No program here. -/
import Derived.Test.YtkaoldnhooojiaaGreatDoorStoreLaw
import Derived.Test.YtkaoldnhooojiaaGreatDoorUpdP
namespace Go.Proofs.YtkaoldnhooojiaaGreatDoor
set_option linter.unusedVariables false
set_option linter.unusedSimpArgs false

/- objects -/
def lacks (m : List Obj) (o : Obj) : Bool := !isAt m o.id
def missL (l m : List Obj) : List Obj := l.filter (lacks m)
def missTo (l m : List Obj) (k : Nat) : List Obj := (l.take k).filter (lacks m)
def missErr (l m : List Obj) (k : Nat) : Int := if isAt m (obj l k).id = true ∧ sameObj (obj l k) (obj m (lo m (obj l k).id)) = false then 6 else 0
def rawE (l m : List Obj) : Int := scan (missErr l m) l.length
def rawL (l m : List Obj) : List Obj := if rawE l m = 0 then missL l m else []
def diffE (l m : List Obj) : Int := if checkStore l ≠ 0 then checkStore l else if checkStore m ≠ 0 then checkStore m else rawE l m
def diffL (l m : List Obj) : List Obj := if diffE l m = 0 then missL l m else []

theorem missTo_zero (l m : List Obj) : missTo l m 0 = [] := rfl
theorem missTo_there {l m : List Obj} {k : Nat} (hk : k < l.length) (h : isAt m (obj l k).id = true) : missTo l m (k + 1) = missTo l m k := by
  unfold missTo lacks
  rw [take_snoc_obj hk, List.filter_append]
  simp [h]
theorem missTo_not {l m : List Obj} {k : Nat} (hk : k < l.length) (h : isAt m (obj l k).id = false) : missTo l m (k + 1) = missTo l m k ++ [obj l k] := by
  unfold missTo lacks
  rw [take_snoc_obj hk, List.filter_append]
  simp [h]
theorem missTo_end (l m : List Obj) : missTo l m l.length = missL l m := by unfold missTo missL; rw [List.take_length]
theorem missTo_length (l m : List Obj) (k : Nat) : (missTo l m k).length ≤ k := by
  unfold missTo
  have h1 := List.length_filter_le (lacks m) (l.take k)
  rw [List.length_take] at h1; omega
theorem missL_length (l m : List Obj) : (missL l m).length ≤ l.length := List.length_filter_le _ _
theorem mem_miss {l m : List Obj} {x : Obj} : x ∈ missL l m ↔ x ∈ l ∧ isAt m x.id = false := by
  unfold missL lacks; rw [List.mem_filter]; simp
theorem missErr_not {l m : List Obj} {k : Nat} (h : isAt m (obj l k).id = false) : missErr l m k = 0 := by unfold missErr; rw [if_neg (by simp [h])]
theorem missErr_same {l m : List Obj} {k : Nat} (h : sameObj (obj l k) (obj m (lo m (obj l k).id)) = true) : missErr l m k = 0 := by unfold missErr; rw [if_neg (by simp [h])]
theorem missErr_twice {l m : List Obj} {k : Nat} (h : isAt m (obj l k).id = true) (h2 : sameObj (obj l k) (obj m (lo m (obj l k).id)) = false) : missErr l m k = 6 := by unfold missErr; rw [if_pos ⟨h, h2⟩]
theorem rawE_zero {l m : List Obj} : rawE l m = 0 ↔ ∀ x ∈ l, isAt m x.id = true → obj m (lo m x.id) = x := by
  unfold rawE
  constructor
  · intro h x hx hat
    obtain ⟨i, hi, rfl⟩ := mem_obj hx
    have := scan_zero h i hi
    cases hs : sameObj (obj l i) (obj m (lo m (obj l i).id))
    · rw [missErr_twice hat hs] at this; cases this
    · exact ((sameObj_iff _ _).1 hs).symm
  · intro h
    refine scan_of_zero fun k hk => ?_
    cases hat : isAt m (obj l k).id
    · exact missErr_not hat
    · exact missErr_same ((sameObj_iff _ _).2 (h _ (obj_mem hk) hat).symm)

/-- rising objects whose links are there are a store -/
theorem store_of {J : List Obj} (hr : Rising J) (hn : J.length ≤ 40) (hc : ∀ x ∈ J, checkObj x = 0)
    (hl : ∀ x ∈ J, ∀ k, k < x.links.length → ∃ y ∈ J, y.id < x.id ∧ y.id = nth x.links k ∧ linkErr x k y.kind = 0) : checkStore J = 0 := by
  refine checkStore_ok hn (scan_of_zero fun i hi => ?_)
  rw [objErr_links (hc _ (obj_mem hi)) (fun h => hr (i - 1) i (by omega) hi)]
  refine scan_of_zero fun k hk => ?_
  obtain ⟨y, hy, h1, h2, h3⟩ := hl _ (obj_mem hi) k hk
  obtain ⟨j, hj, rfl⟩ := mem_obj hy
  have hji : j < i := by
    rcases Nat.lt_trichotomy j i with h | h | h
    · exact h
    · subst h; omega
    · have := hr i j h hj; omega
  have hlen : (J.take i).length = i := by rw [List.length_take]; omega
  have hrt : Rising (J.take i) := fun a b hab hb => by
    rw [hlen] at hb
    rw [obj_take (by omega), obj_take hb]
    exact hr a b hab (by omega)
  have := hrt.kind_self (i := j) (by omega)
  rw [obj_take hji] at this
  rw [← h2, this]
  exact h3

theorem link_of {l : List Obj} (h : checkStore l = 0) {x : Obj} (hx : x ∈ l) {k : Nat} (hk : k < x.links.length) : ∃ y ∈ l, y.id < x.id ∧ y.id = nth x.links k ∧ linkErr x k y.kind = 0 := by
  obtain ⟨i, hi, rfl⟩ := mem_obj hx
  obtain ⟨j, hj, hid, hk2⟩ := (right_of h).linked hi hk
  exact ⟨obj l j, obj_mem (by omega), checkStore_rising h j i hj hi, hid, hk2⟩

theorem filter_rising {l : List Obj} (h : Rising l) (p : Obj → Bool) : Rising (l.filter p) := by
  have h1 : (l.filter p).Pairwise (fun x y => x.id < y.id) := List.Pairwise.filter _ h.pairwise
  rw [List.pairwise_iff_getElem] at h1
  intro i j hij hj
  rw [obj_lt (by omega), obj_lt hj]
  exact h1 i j _ hj hij

/-- WHO TAKES WHAT IT HAS NOT HAS WHAT THE OTHER ONE HAS -/
theorem whole_law {a b : List Obj} (h : diffE a b = 0) (hl : (diffL a b).length ≤ 12) :
    (addE b (diffL a b) = 2 ∧ 40 < a.length + b.length) ∨ (addE b (diffL a b) = 0 ∧ diffE a (addL b (diffL a b)) = 0 ∧ diffL a (addL b (diffL a b)) = [] ∧
      diffE b (addL b (diffL a b)) = 0 ∧ diffL b (addL b (diffL a b)) = [] ∧ diffE (addL b (diffL a b)) b = 0 ∧ diffL (addL b (diffL a b)) b = diffL a b) := by
  have ea : checkStore a = 0 := by
    by_cases e : checkStore a = 0
    · exact e
    · unfold diffE at h; rw [if_pos (by simpa using e)] at h; exact absurd h e
  have eb : checkStore b = 0 := by
    by_cases e : checkStore b = 0
    · exact e
    · unfold diffE at h; rw [if_neg (by simpa using ea), if_pos (by simpa using e)] at h; exact absurd h e
  have er : rawE a b = 0 := by
    unfold diffE at h; rwa [if_neg (by simpa using ea), if_neg (by simpa using eb)] at h
  have eL : diffL a b = missL a b := by unfold diffL; rw [if_pos h]
  rw [eL] at hl ⊢
  have ra := checkStore_rising ea
  have rb := checkStore_rising eb
  have hcons : Cons b (missL a b) := by
    intro x y hx hy e
    rcases hx with hx | hx <;> rcases hy with hy | hy
    · have h1 := rb.isAt_mem hx; have h2 := rb.isAt_mem hy
      rw [← h1.2, e, h2.2]
    · have h1 := rb.isAt_mem hx; have h2 := (mem_miss.1 hy).2
      rw [← e, h1.1] at h2; cases h2
    · have h1 := rb.isAt_mem hy; have h2 := (mem_miss.1 hx).2
      rw [e, h1.1] at h2; cases h2
    · have h1 := ra.isAt_mem (mem_miss.1 hx).1; have h2 := ra.isAt_mem (mem_miss.1 hy).1
      rw [← h1.2, e, h2.2]
  have hj := (joins_ok rb).2 hcons
  have hm := joined_mem (Nat.le_refl _) hj
  rw [List.take_length] at hm
  have hJ := joined_rising rb (missL a b) (missL a b).length
  have hlen := joined_length b (missL a b) (missL a b).length
  have hll := missL_length a b
  have hall : ∀ x, x ∈ a → x ∈ joined b (missL a b) (missL a b).length := fun x hx => by
    rw [hm]
    cases e : isAt b x.id
    · exact .inr (mem_miss.2 ⟨hx, e⟩)
    · have h1 := rawE_zero.1 er x hx e
      exact .inl (h1 ▸ obj_mem (isAt_spec e).1)
  generalize hJe : joined b (missL a b) (missL a b).length = J at *
  have hco : ∀ o ∈ missL a b, checkObj o = 0 := fun o ho => by
    obtain ⟨i, hi, rfl⟩ := mem_obj (mem_miss.1 ho).1
    exact (right_of ea).each i hi
  by_cases h40 : 40 < J.length
  · refine .inl ⟨?_, by omega⟩
    unfold addE
    rw [if_neg (by simpa using eb), if_neg (by omega), if_neg (by simpa using scan_of_zero fun k hk => hco _ (obj_mem hk))]
    unfold withE
    rw [if_pos hj, hJe, checkStore_many h40]
  · have eJ : checkStore J = 0 := by
      refine store_of hJ (by omega) (fun x hx => ?_) (fun x hx k hk => ?_)
      · rcases (hm x).1 hx with h1 | h1
        · obtain ⟨i, hi, rfl⟩ := mem_obj h1
          exact (right_of eb).each i hi
        · exact hco x h1
      · rcases (hm x).1 hx with h1 | h1
        · obtain ⟨y, hy, e⟩ := link_of eb h1 hk
          exact ⟨y, (hm y).2 (.inl hy), e⟩
        · obtain ⟨y, hy, e⟩ := link_of ea (mem_miss.1 h1).1 hk
          exact ⟨y, hall y hy, e⟩
    obtain ⟨h0, hL⟩ := add_of (l := b) (more := missL a b) (J := J) ⟨eb, hl, hco, hcons, eJ, hm⟩
    rw [hL]
    have sub : ∀ c : List Obj, checkStore c = 0 → (∀ x ∈ c, x ∈ J) → diffE c J = 0 ∧ diffL c J = [] := fun c hc hs => by
      have h1 : diffE c J = 0 := by
        unfold diffE
        rw [if_neg (by simpa using hc), if_neg (by simpa using eJ)]
        exact rawE_zero.2 fun x hx _ => (hJ.isAt_mem (hs x hx)).2
      refine ⟨h1, ?_⟩
      unfold diffL
      rw [if_pos h1, List.eq_nil_iff_forall_not_mem]
      intro x hx
      have h2 := mem_miss.1 hx
      rw [(hJ.isAt_mem (hs x h2.1)).1] at h2
      cases h2.2
    have sa := sub a ea hall
    have sb := sub b eb fun x hx => (hm x).2 (.inl hx)
    have h3 : diffE J b = 0 := by
      unfold diffE
      rw [if_neg (by simpa using eJ), if_neg (by simpa using eb)]
      refine rawE_zero.2 fun x hx hat => ?_
      rcases (hm x).1 hx with h1 | h1
      · exact (rb.isAt_mem h1).2
      · rw [(mem_miss.1 h1).2] at hat; cases hat
    refine .inr ⟨h0, sa.1, sa.2, sb.1, sb.2, h3, ?_⟩
    unfold diffL
    rw [if_pos h3]
    refine (filter_rising hJ _).ext (filter_rising ra _) fun x => ?_
    show x ∈ missL J b ↔ x ∈ missL a b
    rw [mem_miss, hm]
    constructor
    · rintro ⟨h1 | h1, h2⟩
      · rw [(rb.isAt_mem h1).1] at h2; cases h2
      · exact h1
    · intro h1
      exact ⟨.inr h1, (mem_miss.1 h1).2⟩

/- names -/
def namesE (l : List Rf) : Int := scan (fun k => nameErr (rf l k).name) l.length
def stepB (l : List Rf) (i : Nat) : Bool := strLt (rf l (i - 1)).name (rf l i).name
def risesB (l : List Rf) : Bool := decide (∀ i, i < l.length → 0 < i → stepB l i = true)
def listsE (l m : List Rf) : Int := if 8 < l.length ∨ 8 < m.length then 2 else if namesE l ≠ 0 then namesE l else if namesE m ≠ 0 then namesE m else if risesB l = true ∧ risesB m = true then 0 else 4

theorem rises_not {l : List Rf} {i : Nat} (hi : i < l.length) (h0 : 0 < i) (h : stepB l i = false) : risesB l = false := by
  unfold risesB
  refine decide_eq_false fun hh => ?_
  rw [hh i hi h0] at h; cases h
theorem rises_all {l : List Rf} (h : ∀ i, i < l.length → 0 < i → stepB l i = true) : risesB l = true := decide_eq_true h
theorem rises_asc {l : List Rf} (h : risesB l = true) : Asc l := by
  have h1 := of_decide_eq_true h
  refine asc_iff.2 fun i j hij hj => ?_
  induction j with
  | zero => omega
  | succ j ih =>
    have h2 := h1 (j + 1) hj (by omega)
    rcases Nat.lt_or_ge i j with h3 | h3
    · exact strLt_trans (ih h3 (by omega)) h2
    · have : i = j := by omega
      subst this; exact h2

/-- from both beginnings on -/
def leadN : Nat → List Rf → List Rf → List Mv
  | 0, _, _ => []
  | n + 1, [], [] => []
  | n + 1, r :: l, [] => ⟨r.name, 0, r.id⟩ :: leadN n l []
  | n + 1, [], t :: m => ⟨t.name, t.id, 0⟩ :: leadN n [] m
  | n + 1, r :: l, t :: m =>
    if strLt r.name t.name then ⟨r.name, 0, r.id⟩ :: leadN n l (t :: m) else if strLt t.name r.name then ⟨t.name, t.id, 0⟩ :: leadN n (r :: l) m
    else if r.id = t.id then leadN n l m else ⟨t.name, t.id, r.id⟩ :: leadN n l m
def leadL (l m : List Rf) : List Mv := leadN (l.length + m.length) l m
def refsL (l m : List Rf) : List Mv := if listsE l m = 0 then leadL l m else []

/-- what a name is of -/
def look : List Rf → ByteArray → Option Int
  | [], _ => none
  | r :: l, s => if r.name = s then some r.id else look l s
theorem look_none {l : List Rf} {s : ByteArray} (h : ∀ x ∈ l, x.name ≠ s) : look l s = none := by
  induction l with
  | nil => rfl
  | cons r l ih => rw [look, if_neg (h r List.mem_cons_self), ih fun x hx => h x (List.mem_cons_of_mem _ hx)]
theorem look_some {l : List Rf} {s : ByteArray} {i : Int} (h : look l s = some i) : ⟨s, i⟩ ∈ l := by
  induction l with
  | nil => cases h
  | cons r l ih =>
    rw [look] at h
    by_cases e : r.name = s
    · rw [if_pos e] at h; cases h; subst e; exact List.mem_cons_self
    · rw [if_neg e] at h; exact List.mem_cons_of_mem _ (ih h)
theorem look_mem {l : List Rf} (hl : Asc l) {x : Rf} (hx : x ∈ l) : look l x.name = some x.id := by
  cases h : look l x.name with
  | none =>
    induction l with
    | nil => cases hx
    | cons r l ih =>
      rw [look] at h
      by_cases e : r.name = x.name
      · rw [if_pos e] at h; cases h
      · rw [if_neg e] at h
        rcases List.mem_cons.1 hx with e2 | h2
        · subst e2; exact absurd rfl e
        · exact ih (List.pairwise_cons.1 hl).2 h2 h
  | some i =>
    have := asc_once hl (look_some h) hx rfl
    rw [← this]
def Moved (l m : List Rf) (u : Mv) : Prop := look l u.name ≠ look m u.name ∧ u.new = (look l u.name).getD 0 ∧ u.old = (look m u.name).getD 0

theorem asc_above {r : Rf} {l : List Rf} (h : Asc (r :: l)) {s : ByteArray} (hs : s = r.name ∨ strLt s r.name = true) : ∀ x ∈ l, x.name ≠ s := fun x hx e => by
  have h1 := (List.pairwise_cons.1 h).1 x hx
  rcases hs with rfl | hs
  · exact strLt_ne h1 e.symm
  · exact strLt_ne (strLt_trans hs h1) e.symm
theorem look_above {r : Rf} {l : List Rf} (h : Asc (r :: l)) : look l r.name = none := look_none (asc_above h (.inl rfl))
theorem look_below {r : Rf} {l : List Rf} (h : Asc (r :: l)) {s : ByteArray} (hs : strLt s r.name = true) : look (r :: l) s = none :=
  look_none fun x hx e => by
    rcases List.mem_cons.1 hx with e2 | h2
    · subst e2; exact strLt_ne hs e.symm
    · exact asc_above h (.inr hs) x h2 e

theorem mv_ext {u v : Mv} (h1 : u.name = v.name) (h2 : u.old = v.old) (h3 : u.new = v.new) : u = v := by cases u; cases v; cases h1; cases h2; cases h3; rfl
theorem look_cons {r : Rf} {l : List Rf} {s : ByteArray} (h : s ≠ r.name) : look (r :: l) s = look l s := by rw [look, if_neg fun e => h e.symm]
theorem look_head {r : Rf} {l : List Rf} : look (r :: l) r.name = some r.id := by rw [look, if_pos rfl]

theorem mem_lead : ∀ (n : Nat) (l m : List Rf), l.length + m.length ≤ n → Asc l → Asc m → ∀ u, u ∈ leadN n l m ↔ Moved l m u
  | 0, [], [], _, _, _, u => by simp [leadN, Moved, look]
  | 0, r :: l, m, h, _, _, u => by simp at h
  | 0, [], t :: m, h, _, _, u => by simp at h
  | n + 1, [], [], _, _, _, u => by simp [leadN, Moved, look]
  | n + 1, r :: l, [], h, hl, hm, u => by
    have ih := mem_lead n l [] (by simp at h ⊢; omega) (List.pairwise_cons.1 hl).2 hm u
    rw [leadN, List.mem_cons, ih]
    by_cases e : u.name = r.name
    · unfold Moved
      rw [e, look_head, look_above hl]
      constructor
      · rintro (h1 | h1)
        · subst h1; exact ⟨by simp [look], rfl, rfl⟩
        · exact absurd rfl h1.1
      · rintro ⟨_, h2, h3⟩
        exact .inl (mv_ext e h3 h2)
    · unfold Moved
      rw [look_cons e]
      exact ⟨fun h1 => h1.elim (fun h2 => absurd (by rw [h2]) e) id, .inr⟩
  | n + 1, [], t :: m, h, hl, hm, u => by
    have ih := mem_lead n [] m (by simp at h ⊢; omega) hl (List.pairwise_cons.1 hm).2 u
    rw [leadN, List.mem_cons, ih]
    by_cases e : u.name = t.name
    · unfold Moved
      rw [e, look_head, look_above hm]
      constructor
      · rintro (h1 | h1)
        · subst h1; exact ⟨by simp [look], rfl, rfl⟩
        · exact absurd rfl h1.1
      · rintro ⟨_, h2, h3⟩
        exact .inl (mv_ext e h3 h2)
    · unfold Moved
      rw [look_cons e]
      exact ⟨fun h1 => h1.elim (fun h2 => absurd (by rw [h2]) e) id, .inr⟩
  | n + 1, r :: l, t :: m, h, hl, hm, u => by
    have hl' := (List.pairwise_cons.1 hl).2
    have hm' := (List.pairwise_cons.1 hm).2
    rw [leadN]
    by_cases h1 : strLt r.name t.name = true
    · have ih := mem_lead n l (t :: m) (by simp at h ⊢; omega) hl' hm u
      rw [if_pos h1, List.mem_cons, ih]
      by_cases e : u.name = r.name
      · unfold Moved
        rw [e, look_head, look_above hl, look_below hm h1]
        constructor
        · rintro (h2 | h2)
          · subst h2; exact ⟨by simp, rfl, rfl⟩
          · exact absurd rfl h2.1
        · rintro ⟨_, h2, h3⟩
          exact .inl (mv_ext e h3 h2)
      · unfold Moved
        rw [look_cons (r := r) e]
        exact ⟨fun h1 => h1.elim (fun h2 => absurd (by rw [h2]) e) id, .inr⟩
    · rw [if_neg h1]
      by_cases h2 : strLt t.name r.name = true
      · have ih := mem_lead n (r :: l) m (by simp at h ⊢; omega) hl hm' u
        rw [if_pos h2, List.mem_cons, ih]
        by_cases e : u.name = t.name
        · unfold Moved
          rw [e, look_head, look_above hm, look_below hl h2]
          constructor
          · rintro (h3 | h3)
            · subst h3; exact ⟨by simp, rfl, rfl⟩
            · exact absurd rfl h3.1
          · rintro ⟨_, h2, h3⟩
            exact .inl (mv_ext e h3 h2)
        · unfold Moved
          rw [look_cons (r := t) e]
          exact ⟨fun h1 => h1.elim (fun h2 => absurd (by rw [h2]) e) id, .inr⟩
      · rw [if_neg h2]
        have hn : r.name = t.name := strLt_tri (by simpa using h1) (by simpa using h2)
        have ih := mem_lead n l m (by simp at h ⊢; omega) hl' hm' u
        have aL := look_above hl
        have aM := look_above hm
        rw [← hn] at aM
        by_cases hi : r.id = t.id
        · rw [if_pos hi, ih]
          unfold Moved
          by_cases e : u.name = r.name
          · rw [e, look_head, aL, aM, hn, look_head, hi]
            exact ⟨fun h3 => absurd rfl h3.1, fun h3 => absurd rfl h3.1⟩
          · rw [look_cons e, look_cons (fun h3 => e (h3.trans hn.symm))]
        · rw [if_neg hi, List.mem_cons, ih]
          unfold Moved
          by_cases e : u.name = r.name
          · rw [e, look_head, aL, aM, show look (t :: m) r.name = some t.id by rw [hn, look_head]]
            constructor
            · rintro (h3 | h3)
              · subst h3; exact ⟨by simpa using hi, rfl, rfl⟩
              · exact absurd rfl h3.1
            · rintro ⟨_, h2, h3⟩
              exact .inl (mv_ext (e.trans hn) h3 h2)
          · rw [look_cons e, look_cons (fun h3 => e (h3.trans hn.symm))]
            exact ⟨fun h3 => h3.elim (fun h4 => absurd (by rw [h4, hn]) e) id, .inr⟩

/-- by name -/
def MvAsc (l : List Mv) : Prop := l.Pairwise fun a b => strLt a.name b.name = true
theorem mvAsc_ext : ∀ {a b : List Mv}, MvAsc a → MvAsc b → (∀ x, x ∈ a ↔ x ∈ b) → a = b
  | [], [], _, _, _ => rfl
  | [], y :: b, _, _, h => absurd ((h y).2 List.mem_cons_self) (by simp)
  | x :: a, [], _, _, h => absurd ((h x).1 List.mem_cons_self) (by simp)
  | x :: a, y :: b, ha, hb, h => by
    obtain ⟨ha1, ha2⟩ := List.pairwise_cons.1 ha
    obtain ⟨hb1, hb2⟩ := List.pairwise_cons.1 hb
    have e : x = y := by
      rcases List.mem_cons.1 ((h x).1 List.mem_cons_self) with e | h1
      · exact e
      · rcases List.mem_cons.1 ((h y).2 List.mem_cons_self) with e | h2
        · exact e.symm
        · have h3 := hb1 _ h1; rw [strLt_asymm (ha1 _ h2)] at h3; cases h3
    subst e
    rw [mvAsc_ext ha2 hb2 fun z => ⟨fun hz => ?_, fun hz => ?_⟩]
    · rcases List.mem_cons.1 ((h z).1 (List.mem_cons_of_mem _ hz)) with e | h1
      · subst e; have := ha1 _ hz; rw [strLt_irrefl] at this; cases this
      · exact h1
    · rcases List.mem_cons.1 ((h z).2 (List.mem_cons_of_mem _ hz)) with e | h1
      · subst e; have := hb1 _ hz; rw [strLt_irrefl] at this; cases this
      · exact h1

/-- names that a lead tells of are in one of the lists -/
theorem lead_asc : ∀ (n : Nat) (l m : List Rf), l.length + m.length ≤ n → Asc l → Asc m → MvAsc (leadN n l m)
  | 0, _, _, _, _, _ => List.Pairwise.nil
  | n + 1, [], [], _, _, _ => List.Pairwise.nil
  | n + 1, r :: l, [], h, hl, hm => by
    have hn : l.length + ([] : List Rf).length ≤ n := by simp at h ⊢; omega
    have hl' := (List.pairwise_cons.1 hl).2
    refine List.pairwise_cons.2 ⟨fun u hu => ?_, lead_asc n l [] hn hl' hm⟩
    have hM := (mem_lead n l [] hn hl' hm u).1 hu
    cases e : look l u.name with
    | none => exact absurd (show look l u.name = look [] u.name from e) hM.1
    | some i => exact (List.pairwise_cons.1 hl).1 _ (look_some e)
  | n + 1, [], t :: m, h, hl, hm => by
    have hn : ([] : List Rf).length + m.length ≤ n := by simp at h ⊢; omega
    have hm' := (List.pairwise_cons.1 hm).2
    refine List.pairwise_cons.2 ⟨fun u hu => ?_, lead_asc n [] m hn hl hm'⟩
    have hM := (mem_lead n [] m hn hl hm' u).1 hu
    cases e : look m u.name with
    | none => exact absurd (show look [] u.name = look m u.name from e.symm) hM.1
    | some i => exact (List.pairwise_cons.1 hm).1 _ (look_some e)
  | n + 1, r :: l, t :: m, h, hl, hm => by
    have hl' := (List.pairwise_cons.1 hl).2
    have hm' := (List.pairwise_cons.1 hm).2
    have above : ∀ (s : ByteArray) (l m : List Rf) (u : Mv), Moved l m u → (∀ x ∈ l, strLt s x.name = true) → (∀ x ∈ m, strLt s x.name = true) → strLt s u.name = true := fun s l m u hM h1 h2 => by
      cases e : look l u.name with
      | some i => exact h1 _ (look_some e)
      | none =>
        cases e2 : look m u.name with
        | some i => exact h2 _ (look_some e2)
        | none => exact absurd (by rw [e, e2]) hM.1
    rw [leadN]
    by_cases h1 : strLt r.name t.name = true
    · have hn : l.length + (t :: m).length ≤ n := by simp at h ⊢; omega
      rw [if_pos h1]
      refine List.pairwise_cons.2 ⟨fun u hu => above _ _ _ u ((mem_lead n _ _ hn hl' hm u).1 hu) (List.pairwise_cons.1 hl).1 fun x hx => ?_, lead_asc n _ _ hn hl' hm⟩
      rcases List.mem_cons.1 hx with e | h2
      · subst e; exact h1
      · exact strLt_trans h1 ((List.pairwise_cons.1 hm).1 x h2)
    · rw [if_neg h1]
      by_cases h2 : strLt t.name r.name = true
      · have hn : (r :: l).length + m.length ≤ n := by simp at h ⊢; omega
        rw [if_pos h2]
        refine List.pairwise_cons.2 ⟨fun u hu => above _ _ _ u ((mem_lead n _ _ hn hl hm' u).1 hu) (fun x hx => ?_) (List.pairwise_cons.1 hm).1, lead_asc n _ _ hn hl hm'⟩
        rcases List.mem_cons.1 hx with e | h3
        · subst e; exact h2
        · exact strLt_trans h2 ((List.pairwise_cons.1 hl).1 x h3)
      · rw [if_neg h2]
        have e : r.name = t.name := strLt_tri (by simpa using h1) (by simpa using h2)
        have hn : l.length + m.length ≤ n := by simp at h ⊢; omega
        by_cases hi : r.id = t.id
        · rw [if_pos hi]; exact lead_asc n l m hn hl' hm'
        · rw [if_neg hi]
          refine List.pairwise_cons.2 ⟨fun u hu => above _ _ _ u ((mem_lead n _ _ hn hl' hm' u).1 hu) (fun x hx => ?_) (List.pairwise_cons.1 hm).1, lead_asc n _ _ hn hl' hm'⟩
          show strLt t.name x.name = true
          rw [← e]; exact (List.pairwise_cons.1 hl).1 x hx

/-- as the program gathers them -/
def goneB (m : List Rf) (r : Rf) : Bool := decide (findRf m r.name = -1) || decide (idOf m r.name ≠ r.id)
def movesA (l m : List Rf) : Nat → List Mv
  | 0 => []
  | k + 1 => if goneB m (rf l k) = true then movesA l m k ++ [⟨(rf l k).name, idOf m (rf l k).name, (rf l k).id⟩] else movesA l m k
def movesB (l m : List Rf) (out : List Mv) : Nat → List Mv
  | 0 => out
  | k + 1 => if findRf l (rf m k).name = -1 then movesB l m out k ++ [⟨(rf m k).name, (rf m k).id, 0⟩] else movesB l m out k
def movesL (l m : List Rf) : List Mv := movesB l m (movesA l m l.length) m.length

theorem movesA_length (l m : List Rf) : ∀ k, (movesA l m k).length ≤ k
  | 0 => Nat.le_refl _
  | k + 1 => by
    have := movesA_length l m k
    unfold movesA; split
    · simp; omega
    · omega
theorem movesB_length (l m : List Rf) (out : List Mv) : ∀ k, (movesB l m out k).length ≤ out.length + k
  | 0 => Nat.le_refl _
  | k + 1 => by
    have := movesB_length l m out k
    unfold movesB; split
    · simp; omega
    · omega

theorem find_look {l : List Rf} (h : Asc l) (s : ByteArray) : (findRf l s = -1 ↔ look l s = none) ∧ idOf l s = (look l s).getD 0 := by
  rcases idOf_cases h s with ⟨h1, h2⟩ | ⟨x, hx, rfl, h2⟩
  · rw [look_none h2, h1]; exact ⟨⟨fun _ => rfl, fun _ => find_none_iff.2 h2⟩, rfl⟩
  · rw [look_mem h hx, h2]; exact ⟨⟨fun h3 => absurd rfl (find_none_iff.1 h3 x hx), fun h3 => by cases h3⟩, rfl⟩
theorem mem_movesA {l m : List Rf} {u : Mv} : ∀ {k : Nat}, u ∈ movesA l m k ↔ ∃ j, j < k ∧ goneB m (rf l j) = true ∧ u = ⟨(rf l j).name, idOf m (rf l j).name, (rf l j).id⟩
  | 0 => by simp [movesA]
  | k + 1 => by
    have ih := mem_movesA (l := l) (m := m) (u := u) (k := k)
    unfold movesA
    constructor
    · split
      · rename_i hg
        rw [List.mem_append, ih, List.mem_singleton]
        rintro (⟨j, hj, h⟩ | h)
        · exact ⟨j, by omega, h⟩
        · exact ⟨k, by omega, hg, h⟩
      · rw [ih]; rintro ⟨j, hj, h⟩; exact ⟨j, by omega, h⟩
    · rintro ⟨j, hj, hg, h⟩
      by_cases e : j = k
      · subst e; rw [if_pos hg, List.mem_append, List.mem_singleton]; exact .inr h
      · split
        · rw [List.mem_append, ih]; exact .inl ⟨j, by omega, hg, h⟩
        · exact ih.2 ⟨j, by omega, hg, h⟩
theorem mem_movesB {l m : List Rf} {out : List Mv} {u : Mv} : ∀ {k : Nat}, u ∈ movesB l m out k ↔ u ∈ out ∨ ∃ j, j < k ∧ findRf l (rf m j).name = -1 ∧ u = ⟨(rf m j).name, (rf m j).id, 0⟩
  | 0 => by simp [movesB]
  | k + 1 => by
    have ih := mem_movesB (l := l) (m := m) (out := out) (u := u) (k := k)
    unfold movesB
    constructor
    · split
      · rename_i hg
        rw [List.mem_append, ih, List.mem_singleton]
        rintro ((h | ⟨j, hj, h⟩) | h)
        · exact .inl h
        · exact .inr ⟨j, by omega, h⟩
        · exact .inr ⟨k, by omega, hg, h⟩
      · rw [ih]; rintro (h | ⟨j, hj, h⟩)
        · exact .inl h
        · exact .inr ⟨j, by omega, h⟩
    · rintro (h | ⟨j, hj, hg, h⟩)
      · split
        · rw [List.mem_append, ih]; exact .inl (.inl h)
        · exact ih.2 (.inl h)
      · by_cases e : j = k
        · subst e; rw [if_pos hg, List.mem_append, List.mem_singleton]; exact .inr h
        · split
          · rw [List.mem_append, ih]; exact .inl (.inr ⟨j, by omega, hg, h⟩)
          · exact ih.2 (.inr ⟨j, by omega, hg, h⟩)
theorem mem_moves {l m : List Rf} (hl : Asc l) (hm : Asc m) {u : Mv} : u ∈ movesL l m ↔ Moved l m u := by
  unfold movesL
  rw [mem_movesB, mem_movesA]
  constructor
  · rintro (⟨j, hj, hg, rfl⟩ | ⟨j, hj, hf, rfl⟩)
    · have h1 := look_mem hl (rf_mem hj)
      have h2 := find_look hm (rf l j).name
      refine ⟨?_, by simp [h1], h2.2⟩
      show look l (rf l j).name ≠ look m (rf l j).name
      rw [h1]
      unfold goneB at hg
      intro e
      rw [← e] at h2
      rcases Bool.or_eq_true_iff.1 hg with h3 | h3
      · have := h2.1.1 (of_decide_eq_true h3); cases this
      · exact of_decide_eq_true h3 h2.2
    · have h1 := look_mem hm (rf_mem hj)
      have h2 := (find_look hl (rf m j).name).1.1 hf
      exact ⟨by show look l (rf m j).name ≠ look m (rf m j).name; rw [h1, h2]; simp, by show (0 : Int) = _; rw [h2]; rfl, by simp [h1]⟩
  · rintro ⟨h1, h2, h3⟩
    cases e : look l u.name with
    | some i =>
      obtain ⟨j, hj, hx⟩ := mem_rf (look_some e)
      have hn : (rf l j).name = u.name := by rw [hx]
      have hi : (rf l j).id = i := by rw [hx]
      have h4 := find_look hm u.name
      rw [e] at h1 h2
      refine .inl ⟨j, hj, ?_, mv_ext hn.symm (by rw [hn, h4.2, h3]) (by rw [hi, h2]; rfl)⟩
      unfold goneB
      rw [hn, hi, Bool.or_eq_true, decide_eq_true_eq, decide_eq_true_eq]
      cases e2 : look m u.name with
      | none => exact .inl (h4.1.2 e2)
      | some k =>
        rw [e2] at h1 h4
        exact .inr fun e3 => h1 (by rw [← e3, h4.2]; rfl)
    | none =>
      cases e2 : look m u.name with
      | none => exact absurd (by rw [e, e2]) h1
      | some k =>
        obtain ⟨j, hj, hx⟩ := mem_rf (look_some e2)
        have hn : (rf m j).name = u.name := by rw [hx]
        have hi : (rf m j).id = k := by rw [hx]
        rw [e] at h2; rw [e2] at h3
        exact .inr ⟨j, hj, by rw [hn]; exact (find_look hl u.name).1.2 e, mv_ext hn.symm (by rw [hi, h3]; rfl) (by rw [h2]; rfl)⟩

/-- no two moves are of one name -/
theorem moves_once {l m : List Rf} (hl : Asc l) (hm : Asc m) : (movesL l m).Pairwise fun a b => a.name ≠ b.name := by
  have hA : ∀ k, k ≤ l.length → (movesA l m k).Pairwise fun a b => a.name ≠ b.name := by
    intro k
    induction k with
    | zero => intro _; exact List.Pairwise.nil
    | succ k ih =>
      intro hk
      unfold movesA
      split
      · refine List.pairwise_append.2 ⟨ih (by omega), List.pairwise_singleton _ _, fun a ha b hb => ?_⟩
        rw [List.mem_singleton] at hb; subst hb
        obtain ⟨j, hj, _, rfl⟩ := mem_movesA.1 ha
        exact strLt_ne (asc_iff.1 hl j k hj hk)
      · exact ih (by omega)
  have hB : ∀ k, k ≤ m.length → (movesB l m (movesA l m l.length) k).Pairwise fun a b => a.name ≠ b.name := by
    intro k
    induction k with
    | zero => intro _; exact hA _ (Nat.le_refl _)
    | succ k ih =>
      intro hk
      unfold movesB
      split
      · rename_i hg
        refine List.pairwise_append.2 ⟨ih (by omega), List.pairwise_singleton _ _, fun a ha b hb => ?_⟩
        rw [List.mem_singleton] at hb; subst hb
        rcases mem_movesB.1 ha with h1 | ⟨j, hj, _, rfl⟩
        · obtain ⟨j, hj, _, rfl⟩ := mem_movesA.1 h1
          exact find_none_iff.1 hg _ (rf_mem hj)
        · exact strLt_ne (asc_iff.1 hm j k hj hk)
      · exact ih (by omega)
  exact hB _ (Nat.le_refl _)

/-- SORTED, THEY ARE THE LEAD -/
theorem sorted_lead {l m : List Rf} (hl : Asc l) (hm : Asc m) {d : List Mv} (hp : d.Perm (movesL l m)) (hs : d.Pairwise fun a b => strLt b.name a.name = false) : d = leadL l m := by
  have h1 : d.Pairwise fun a b => a.name ≠ b.name := (hp.pairwise_iff (fun h e => h e.symm)).2 (moves_once hl hm)
  refine mvAsc_ext (hs.imp₂ (fun a b h2 h3 => ?_) h1) (lead_asc _ l m (Nat.le_refl _) hl hm) fun u => ?_
  · cases e : strLt a.name b.name
    · exact absurd (strLt_tri e h2) h3
    · rfl
  · rw [hp.mem_iff, mem_moves hl hm]; exact (mem_lead _ l m (Nat.le_refl _) hl hm u).symm
end Go.Proofs.YtkaoldnhooojiaaGreatDoor
