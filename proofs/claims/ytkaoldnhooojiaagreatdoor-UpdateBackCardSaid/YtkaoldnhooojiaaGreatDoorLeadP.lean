
/- LeadP: the plain law: updates lead from one list to the other one. No program here. -/
import Derived.Test.YtkaoldnhooojiaaGreatDoorUpdL
import Derived.Test.YtkaoldnhooojiaaGreatDoorDiffP
namespace Go.Proofs.YtkaoldnhooojiaaGreatDoor
open Go.RowKit
set_option linter.unusedVariables false
set_option linter.unusedSimpArgs false

theorem kindRange {objs : List Obj} (h : checkStore objs = 0) {id : Int} (hk : kindOf objs id = 3) : 1 ≤ id ∧ id ≤ 99 := by
  obtain ⟨j, hj, he, _⟩ := kind_place (l := objs) (id := id) (by rw [hk]; decide)
  have h3 := (right_of h).each j hj
  unfold checkObj at h3
  cases hw : within (obj objs j).id 1 99
  · simp [hw] at h3
  · rw [he] at hw
    unfold within at hw
    simpa using hw
theorem look_ok {l : List Rf} {objs : List Obj} (h : checkRefs l objs = 0) {s : ByteArray} {i : Int} (hi : look l s = some i) : nameErr s = 0 ∧ kindOf objs i = 3 ∧ 1 ≤ i ∧ i ≤ 99 := by
  have hk := checkRefs_zero.1 h
  obtain ⟨j, hj, e⟩ := mem_rf (look_some hi)
  have h1 := hk.2.name j hj
  have h2 := hk.2.commit j hj
  rw [e] at h1 h2
  exact ⟨h1, h2, kindRange hk.1 h2⟩
theorem lead_mem {l m : List Rf} (hl : Asc l) (hm : Asc m) {u : Mv} : u ∈ leadL l m ↔ Moved l m u := mem_lead _ l m (Nat.le_refl _) hl hm u
theorem lead_applied {l m : List Rf} {objs : List Obj} (hl : checkRefs l objs = 0) (hm : checkRefs m objs = 0) (h0 : 0 < (leadL l m).length) (h4 : (leadL l m).length ≤ 4) : Applied m objs (leadL l m) true l := by
  have al := (checkRefs_zero.1 hl).2.asc
  have am := (checkRefs_zero.1 hm).2.asc
  have hM := fun u => lead_mem al am (u := u)
  have hnew : ∀ u ∈ leadL l m, u.new ≠ 0 → look l u.name = some u.new := fun u hu h => by
    obtain ⟨_, e, _⟩ := (hM u).1 hu
    cases hc : look l u.name with
    | none => rw [hc] at e; exact absurd e h
    | some i => rw [hc] at e; rw [e]; rfl
  have hold : ∀ u ∈ leadL l m, u.old ≠ 0 → look m u.name = some u.old := fun u hu h => by
    obtain ⟨_, _, e⟩ := (hM u).1 hu
    cases hc : look m u.name with
    | none => rw [hc] at e; exact absurd e h
    | some i => rw [hc] at e; rw [e]; rfl
  refine ⟨hm, ⟨h0, h4, fun u hu => ?_, fun u hu => ?_, fun u hu => ?_, fun u hu => ?_, ?_⟩, fun u hu => ?_, fun x => ?_, al, rightErr_of (checkRefs_zero.1 hl).2⟩
  · have hne := ((hM u).1 hu).1
    cases hc : look l u.name with
    | some i => exact (look_ok hl hc).1
    | none =>
      cases hd : look m u.name with
      | some i => exact (look_ok hm hd).1
      | none => rw [hc, hd] at hne; exact absurd rfl hne
  · by_cases h : u.old = 0
    · omega
    · have := look_ok hm (hold u hu h); omega
  · by_cases h : u.new = 0
    · omega
    · have := look_ok hl (hnew u hu h); omega
  · rintro ⟨e1, e2⟩
    obtain ⟨hne, f1, f2⟩ := (hM u).1 hu
    cases hc : look l u.name with
    | some i => have := look_ok hl hc; rw [hc] at f1; simp at f1; omega
    | none =>
      cases hd : look m u.name with
      | some i => have := look_ok hm hd; rw [hd] at f2; simp at f2; omega
      | none => rw [hc, hd] at hne; exact absurd rfl hne
  · exact (lead_asc _ l m (Nat.le_refl _) al am).imp fun {a b} h => strLt_ne h
  · refine ⟨((find_look am u.name).2).trans ((hM u).1 hu).2.2.symm, fun h => ⟨(look_ok hl (hnew u hu h)).2.1, fun _ e => by cases e⟩⟩
  · constructor
    · intro hx
      have h1 := look_mem al hx
      by_cases hc : look m x.name = some x.id
      · refine .inr ⟨look_some hc, fun u hu e => ?_⟩
        have := ((hM u).1 hu).1
        rw [e, h1, hc] at this; exact this rfl
      · refine .inl ⟨⟨x.name, (look m x.name).getD 0, x.id⟩, (hM _).2 ⟨fun e => hc (by rw [← h1]; exact e.symm), by rw [h1]; rfl, rfl⟩, ?_, rfl⟩
        have := look_ok hl h1
        show x.id ≠ 0
        omega
    · rintro (⟨u, hu, h, rfl⟩ | ⟨hx, hn⟩)
      · exact look_some (hnew u hu h)
      · have h1 := look_mem am hx
        by_cases hc : look l x.name = look m x.name
        · exact look_some (hc.trans h1)
        · exact absurd rfl (hn ⟨x.name, (look m x.name).getD 0, (look l x.name).getD 0⟩ ((hM _).2 ⟨hc, rfl, rfl⟩))
/-- nothing is to move just where they are the same -/
theorem lead_none {l m : List Rf} (al : Asc l) (am : Asc m) : leadL l m = [] ↔ l = m := by
  constructor
  · intro h
    have hM := fun u => lead_mem al am (u := u)
    have hs : ∀ s, look l s = look m s := fun s => by
      by_cases hc : look l s = look m s
      · exact hc
      · have := (hM ⟨s, (look m s).getD 0, (look l s).getD 0⟩).2 ⟨hc, rfl, rfl⟩
        rw [h] at this; cases this
    exact asc_ext al am fun x => ⟨fun hx => look_some (by rw [← hs]; exact look_mem al hx), fun hx => look_some (by rw [hs]; exact look_mem am hx)⟩
  · rintro rfl
    cases hl : leadL l l with
    | nil => rfl
    | cons u r =>
      have := (lead_mem al al (u := u)).1 (by rw [hl]; exact List.mem_cons_self)
      exact absurd rfl this.1
end Go.Proofs.YtkaoldnhooojiaaGreatDoor
