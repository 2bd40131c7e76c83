
/- UpdL: the plain law of updates: their order does not matter; what was done can be taken back. No program here. -/
import Derived.Test.YtkaoldnhooojiaaGreatDoorPushP
import Derived.Test.YtkaoldnhooojiaaGreatDoorOnceP
import Derived.Test.YtkaoldnhooojiaaGreatDoorStoreLaw
namespace Go.Proofs.YtkaoldnhooojiaaGreatDoor
open Go.RowKit
set_option linter.unusedVariables false
set_option linter.unusedSimpArgs false

/-- updates that went well -/
structure Applied (l : List Rf) (objs : List Obj) (us : List Mv) (force : Bool) (M : List Rf) : Prop where
  refs : checkRefs l objs = 0
  mvs : MvsOk us
  each : ∀ u ∈ us, idOf l u.name = u.old ∧ (u.new ≠ 0 → kindOf objs u.new = 3 ∧ (u.old ≠ 0 → force = false → behindB objs u.old u.new = true))
  mem : ∀ x, x ∈ M ↔ (∃ u ∈ us, u.new ≠ 0 ∧ x = ⟨u.name, u.new⟩) ∨ (x ∈ l ∧ ∀ u ∈ us, u.name ≠ x.name)
  asc : Asc M
  right : rightErr M objs = 0

theorem mem_moved {l : List Rf} {us : List Mv} (hu : MvsOk us) (x : Rf) : ∀ k, k ≤ us.length → (x ∈ movedL l us k ↔ (∃ i, i < k ∧ (mv us i).new ≠ 0 ∧ x = ⟨(mv us i).name, (mv us i).new⟩) ∨ (x ∈ l ∧ ∀ i, i < k → (mv us i).name ≠ x.name))
  | 0, _ => by simp [movedL]
  | k + 1, hk => by
    show x ∈ setRf (movedL l us k) (mv us k).name (mv us k).new ↔ _
    rw [mem_set, mem_moved hu x k (by omega)]
    constructor
    · rintro (⟨⟨i, hi, h0, rfl⟩ | ⟨hx, hn⟩, hne⟩ | ⟨h0, rfl⟩)
      · exact .inl ⟨i, by omega, h0, rfl⟩
      · refine .inr ⟨hx, fun i hi => ?_⟩
        by_cases e : i = k
        · subst e; exact fun e => hne e.symm
        · exact hn i (by omega)
      · exact .inl ⟨k, by omega, h0, rfl⟩
    · rintro (⟨i, hi, h0, rfl⟩ | ⟨hx, hn⟩)
      · by_cases e : i = k
        · subst e; exact .inr ⟨h0, rfl⟩
        · exact .inl ⟨.inl ⟨i, by omega, h0, rfl⟩, mv_ne hu (by omega) (by omega)⟩
      · exact .inl ⟨.inr ⟨hx, fun i hi => hn i (by omega)⟩, fun e => hn k (by omega) e.symm⟩
theorem mem_movedAll {l : List Rf} {us : List Mv} (hu : MvsOk us) (x : Rf) : x ∈ movedL l us us.length ↔ (∃ u ∈ us, u.new ≠ 0 ∧ x = ⟨u.name, u.new⟩) ∨ (x ∈ l ∧ ∀ u ∈ us, u.name ≠ x.name) := by
  rw [mem_moved hu x _ (Nat.le_refl _)]
  constructor
  · rintro (⟨i, hi, h0, e⟩ | ⟨hx, hn⟩)
    · exact .inl ⟨_, mv_mem hi, h0, e⟩
    · refine .inr ⟨hx, fun u hu => ?_⟩
      obtain ⟨i, hi, rfl⟩ := mem_mv hu
      exact hn i hi
  · rintro (⟨u, hu, h0, e⟩ | ⟨hx, hn⟩)
    · obtain ⟨i, hi, rfl⟩ := mem_mv hu
      exact .inl ⟨i, hi, h0, e⟩
    · exact .inr ⟨hx, fun i hi => hn _ (mv_mem hi)⟩

theorem applied {l : List Rf} {objs : List Obj} {us : List Mv} {force : Bool} (h : applyE l objs us force = 0) : Applied l objs us force (applyR l objs us force) := by
  have hR : applyR l objs us force = movedL l us us.length := by unfold applyR; rw [if_pos h]
  unfold applyE at h
  split at h
  · rename_i h1; exact absurd h h1
  · rename_i h1
    have hr : checkRefs l objs = 0 := by simpa using h1
    split at h
    · rename_i h2; exact absurd h h2
    · rename_i h2
      have hu : MvsOk us := mvs_ok.1 (by simpa using h2)
      have hasc : Asc l := (checkRefs_zero.1 hr).2.asc
      unfold movedE at h
      split at h
      · rename_i h3
        have hz := scan_zero h3
        rw [hR]
        refine ⟨hr, hu, fun u hm => ?_, mem_movedAll hu, movedL_asc hasc us _, h⟩
        obtain ⟨i, hi, rfl⟩ := mem_mv hm
        have := moveErr_zero.1 (hz i hi)
        rw [unmoved_id hasc hu hi i (Nat.le_refl _)] at this
        exact this
      · rename_i h3; exact absurd h h3
theorem Applied.list {l : List Rf} {objs : List Obj} {us : List Mv} {force : Bool} {M : List Rf} (h : Applied l objs us force M) : movedL l us us.length = M :=
  asc_ext (movedL_asc (checkRefs_zero.1 h.refs).2.asc us _) h.asc fun x => by rw [mem_movedAll h.mvs, h.mem]
theorem Applied.of {l : List Rf} {objs : List Obj} {us : List Mv} {force : Bool} {M : List Rf} (h : Applied l objs us force M) : applyE l objs us force = 0 ∧ applyR l objs us force = M := by
  have hasc : Asc l := (checkRefs_zero.1 h.refs).2.asc
  have hz : scan (movedErr l objs us force) us.length = 0 := scan_of_zero fun i hi => moveErr_zero.2 (by
    rw [unmoved_id hasc h.mvs hi i (Nat.le_refl _)]
    exact h.each _ (mv_mem hi))
  have h0 : applyE l objs us force = 0 := by
    unfold applyE movedE
    rw [if_neg (by simpa using h.refs), if_neg (by simpa using mvs_ok.2 h.mvs), if_pos hz, h.list]
    exact h.right
  exact ⟨h0, by unfold applyR; rw [if_pos h0]; exact h.list⟩

/- in whatever order -/
theorem MvsOk.perm {us vs : List Mv} (h : MvsOk us) (hp : vs.Perm us) : MvsOk vs where
  some := by rw [hp.length_eq]; exact h.some
  many := by rw [hp.length_eq]; exact h.many
  name := fun u hu => h.name u (hp.mem_iff.1 hu)
  old := fun u hu => h.old u (hp.mem_iff.1 hu)
  new := fun u hu => h.new u (hp.mem_iff.1 hu)
  moves := fun u hu => h.moves u (hp.mem_iff.1 hu)
  once := (hp.pairwise_iff (fun {a b} hab e => hab e.symm)).2 h.once
theorem Applied.perm {l : List Rf} {objs : List Obj} {us vs : List Mv} {force : Bool} {M : List Rf} (h : Applied l objs us force M) (hp : vs.Perm us) : Applied l objs vs force M where
  refs := h.refs
  mvs := h.mvs.perm hp
  each := fun u hu => h.each u (hp.mem_iff.1 hu)
  mem := fun x => by
    rw [h.mem]
    simp only [hp.mem_iff]
  asc := h.asc
  right := h.right
theorem apply_perm {l : List Rf} {objs : List Obj} {us vs : List Mv} (force : Bool) (hp : vs.Perm us) : (applyE l objs us force = 0 ↔ applyE l objs vs force = 0) ∧ applyR l objs us force = applyR l objs vs force := by
  have h1 : applyE l objs us force = 0 ↔ applyE l objs vs force = 0 := ⟨fun h => ((applied h).perm hp).of.1, fun h => ((applied h).perm hp.symm).of.1⟩
  refine ⟨h1, ?_⟩
  by_cases h : applyE l objs us force = 0
  · exact (((applied h).perm hp).of.2).symm
  · have h2 : ¬ applyE l objs vs force = 0 := fun e => h (h1.2 e)
    unfold applyR; rw [if_neg h, if_neg h2]
theorem checkMvs_perm {us vs : List Mv} (hp : vs.Perm us) : checkMvs us = 0 ↔ checkMvs vs = 0 :=
  ⟨fun h => mvs_ok.2 ((mvs_ok.1 h).perm hp), fun h => mvs_ok.2 ((mvs_ok.1 h).perm hp.symm)⟩
theorem apply_right {l : List Rf} {objs : List Obj} {us : List Mv} {force : Bool} (h : applyE l objs us force = 0) : checkRefs (applyR l objs us force) objs = 0 := by
  have ha := applied h
  exact checkRefs_zero.2 ⟨(checkRefs_zero.1 ha.refs).1, rightErr_zero ha.right⟩

theorem kind_no0 {objs : List Obj} (h : checkStore objs = 0) : ¬ kindOf objs 0 = 3 := fun hk => by
  obtain ⟨j, hj, he, _⟩ := kind_place (l := objs) (id := 0) (by rw [hk]; decide)
  have h3 := (right_of h).each j hj
  unfold checkObj at h3
  have hw : within (obj objs j).id 1 99 = false := by rw [he]; decide
  simp [hw] at h3

/- taken back -/
def backMv (u : Mv) : Mv := ⟨u.name, u.new, u.old⟩
theorem Applied.asc0 {l : List Rf} {objs : List Obj} {us : List Mv} {force : Bool} {M : List Rf} (h : Applied l objs us force M) : Asc l := (checkRefs_zero.1 h.refs).2.asc
theorem Applied.told {l : List Rf} {objs : List Obj} {us : List Mv} {force : Bool} {M : List Rf} (h : Applied l objs us force M) {u : Mv} (hu : u ∈ us) : idOf M u.name = u.new := by
  obtain ⟨i, hi, rfl⟩ := mem_mv hu
  rw [← h.list]; exact moved_id h.asc0 h.mvs _ hi (Nat.le_refl _)
theorem Applied.stays {l : List Rf} {objs : List Obj} {us : List Mv} {force : Bool} {M : List Rf} (h : Applied l objs us force M) {s : ByteArray} (hs : ∀ u ∈ us, u.name ≠ s) : idOf M s = idOf l s := by
  rcases idOf_cases h.asc0 s with ⟨e, hn⟩ | ⟨x, hx, hxs, e⟩
  · rw [e]
    refine idOf_none fun x hx e2 => ?_
    rcases (h.mem x).1 hx with ⟨u, hu, _, rfl⟩ | ⟨hx2, _⟩
    · exact hs u hu e2
    · exact hn x hx2 e2
  · rw [e]
    have := idOf_mem h.asc (x := x) ((h.mem x).2 (.inr ⟨hx, fun u hu => by rw [hxs]; exact hs u hu⟩))
    rwa [hxs] at this
theorem Applied.back {l : List Rf} {objs : List Obj} {us : List Mv} {force : Bool} {M : List Rf} (h : Applied l objs us force M) : Applied M objs (us.map backMv) true l := by
  have hok := (checkRefs_zero.1 h.refs)
  have hu := h.mvs
  refine ⟨checkRefs_zero.2 ⟨hok.1, rightErr_zero h.right⟩, ⟨?_, ?_, ?_, ?_, ?_, ?_, ?_⟩, ?_, ?_, h.asc0, rightErr_of hok.2⟩
  · rw [List.length_map]; exact hu.some
  · rw [List.length_map]; exact hu.many
  · intro u hm; obtain ⟨v, hv, rfl⟩ := List.mem_map.1 hm; exact hu.name v hv
  · intro u hm; obtain ⟨v, hv, rfl⟩ := List.mem_map.1 hm; exact hu.new v hv
  · intro u hm; obtain ⟨v, hv, rfl⟩ := List.mem_map.1 hm; exact hu.old v hv
  · intro u hm; obtain ⟨v, hv, rfl⟩ := List.mem_map.1 hm; exact fun e => hu.moves v hv ⟨e.2, e.1⟩
  · rw [List.pairwise_map]; exact hu.once
  · intro u hm
    obtain ⟨v, hv, rfl⟩ := List.mem_map.1 hm
    refine ⟨h.told hv, fun h0 => ⟨?_, fun _ e => by cases e⟩⟩
    rcases idOf_cases h.asc0 v.name with ⟨e, _⟩ | ⟨x, hx, hxs, e⟩
    · exact absurd ((h.each v hv).1.symm.trans e) h0
    · have e2 : v.old = x.id := (h.each v hv).1.symm.trans e
      show kindOf objs v.old = 3
      rw [e2]
      obtain ⟨i, hi, rfl⟩ := mem_rf hx
      exact hok.2.commit i hi
  · intro x
    constructor
    · intro hx
      by_cases ht : ∃ u ∈ us, u.name = x.name
      · obtain ⟨u, hu2, e⟩ := ht
        refine .inl ⟨backMv u, List.mem_map.2 ⟨u, hu2, rfl⟩, ?_⟩
        have e2 : idOf l u.name = x.id := by rw [e]; exact idOf_mem h.asc0 hx
        have e3 : u.old = x.id := (h.each u hu2).1.symm.trans e2
        obtain ⟨i, hi, rfl⟩ := mem_rf hx
        have hk := hok.2.commit i hi
        refine ⟨fun h0 => ?_, ?_⟩
        · have h0' : (rf l i).id = 0 := by rw [← e3]; exact h0
          rw [h0'] at hk
          exact absurd hk (kind_no0 hok.1)
        · show rf l i = ⟨u.name, u.old⟩
          rw [e, e3]
      · refine .inr ⟨(h.mem x).2 (.inr ⟨hx, fun u hu e => ht ⟨u, hu, e⟩⟩), fun u hm e => ?_⟩
        obtain ⟨v, hv, rfl⟩ := List.mem_map.1 hm
        exact ht ⟨v, hv, e⟩
    · rintro (⟨u, hm, h0, rfl⟩ | ⟨hx, hn⟩)
      · obtain ⟨v, hv, rfl⟩ := List.mem_map.1 hm
        rcases idOf_cases h.asc0 v.name with ⟨e, _⟩ | ⟨y, hy, hys, e⟩
        · exact absurd ((h.each v hv).1.symm.trans e) h0
        · have e2 : v.old = y.id := (h.each v hv).1.symm.trans e
          show (⟨v.name, v.old⟩ : Rf) ∈ l
          rw [e2, ← hys]; exact hy
      · rcases (h.mem x).1 hx with ⟨u, hu2, _, rfl⟩ | ⟨hx2, _⟩
        · exact absurd rfl (hn (backMv u) (List.mem_map.2 ⟨u, hu2, rfl⟩))
        · exact hx2

/- done twice it is refused -/
theorem Applied.twice {l : List Rf} {objs : List Obj} {us : List Mv} {force : Bool} {M : List Rf} (h : Applied l objs us force M) (hm : movesU us = true) : applyE M objs us force = 4 := by
  have hM : RefsOk M objs := rightErr_zero h.right
  have hz : ∀ j, j < us.length → _ := fun j hj => h.each _ (mv_mem (l := us) (i := j) hj)
  have hid : ∀ j, j < us.length → idOf M (mv us j).name = (mv us j).new := fun j hj => h.told (mv_mem hj)
  have hex : ∃ k, k < us.length ∧ (mv us k).old ≠ (mv us k).new ∧ ∀ j, j < k → (mv us j).old = (mv us j).new := by
    unfold movesU at hm
    obtain ⟨u, hu, hne⟩ := List.any_eq_true.1 hm
    obtain ⟨i, hi, rfl⟩ := mem_mv hu
    have hi2 : (mv us i).old ≠ (mv us i).new := by simpa using hne
    clear hm hu hne
    induction i using Nat.strongRecOn with
    | ind i ih =>
      by_cases hall : ∀ j, j < i → (mv us j).old = (mv us j).new
      · exact ⟨i, hi, hi2, hall⟩
      · have ⟨j, hj⟩ := Classical.not_forall.1 hall
        have ⟨hj1, hj2⟩ := Classical.not_imp.1 hj
        exact ih j hj1 (by omega) hj2
  obtain ⟨k, hk, hne, hall⟩ := hex
  have hstay : ∀ j, j ≤ k → movedL M us j = M := by
    intro j hj
    induction j with
    | zero => rfl
    | succ j ih =>
      show setRf (movedL M us j) _ _ = M
      rw [ih (by omega)]
      have e := hall j (by omega)
      have hmv := h.mvs.moves _ (mv_mem (l := us) (i := j) (by omega))
      exact set_same hM.asc (fun e0 => hmv ⟨by rw [e, e0], e0⟩) (hid j (by omega))
  have hbefore : scan (movedErr M objs us force) k = 0 := scan_of_zero fun j hj => by
    unfold movedErr
    rw [hstay j (by omega)]
    exact moveErr_zero.2 ⟨by rw [hid j (by omega), hall j hj], (hz j (by omega)).2⟩
  have hat : movedErr M objs us force k = 4 := by
    unfold movedErr moveErr
    rw [hstay k (Nat.le_refl _), if_pos (by rw [hid k hk]; exact fun e => hne e.symm)]
  have hscan : scan (movedErr M objs us force) us.length = 4 := by
    rw [scan_hit hbefore (by rw [hat]; decide) hk, hat]
  unfold applyE movedE
  rw [if_neg (by rw [checkRefs_zero.2 ⟨(checkRefs_zero.1 h.refs).1, hM⟩]; simp), if_neg (by simp [mvs_ok.2 h.mvs]), hscan]
  rfl
end Go.Proofs.YtkaoldnhooojiaaGreatDoor
