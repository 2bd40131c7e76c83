
/- StepP: the plain law of a replica's phases. No program here. -/
import Derived.Test.YtdhoodloklgokaaGreatDoorVoteG
import Derived.Test.YtdhoodloklgokaaGreatDoorRepA
import Derived.Test.YtdhoodloklgokaaGreatDoorUpdL
namespace Go.Proofs.YtdhoodloklgokaaGreatDoor
open Go.RowKit
set_option linter.unusedVariables false
set_option linter.unusedSimpArgs false

def idleR (r : Rep) : Rep := ⟨r.store, r.refs, r.gen, 0, psh0⟩
/-- a replica that must be in a phase -/
def inE (r : Rep) (ph : Int) : Int := if repCheck r ≠ 0 then repCheck r else if r.phase ≠ ph then 4 else 0
def heldR (r : Rep) (p : Psh) : Rep := ⟨r.store, r.refs, r.gen, 1, p⟩
def prepE (r : Rep) (p : Psh) : Int := if inE r 0 ≠ 0 then inE r 0 else checkPsh p
def prepR (r : Rep) (p : Psh) : Rep := if prepE r p = 0 then heldR r p else rep0
def votedR (r : Rep) : Rep := ⟨r.store, r.refs, r.gen, 2, r.pend⟩
def votR (r : Rep) : Rep := if inE r 1 = 0 then votedR r else rep0
def votS (r : Rep) : ByteArray := if inE r 1 = 0 then voteR r r.pend else ByteArray.empty
def commE (r : Rep) : Int := if tryE r r.pend ≠ 0 then tryE r r.pend else if r.gen = 999 then 2 else 0
def doneR (r : Rep) (p : Psh) : Rep := ⟨tryL r p, tryM r p, r.gen + 1, 0, psh0⟩
def endE (r : Rep) (commit : Bool) : Int := if commit = true then commE r else 0
def endR (r : Rep) (commit : Bool) : Rep := if commit = true then doneR r r.pend else idleR r
def finE (r : Rep) (commit : Bool) : Int := if inE r 2 ≠ 0 then inE r 2 else endE r commit
def finR (r : Rep) (commit : Bool) : Rep := if finE r commit = 0 then endR r commit else rep0
def craR (r : Rep) : Rep := if repCheck r = 0 then idleR r else rep0

theorem inE_zero {r : Rep} {ph : Int} (h : inE r ph = 0) : repCheck r = 0 ∧ r.phase = ph := by
  unfold inE at h
  by_cases h1 : repCheck r = 0
  · rw [if_neg (by simpa using h1)] at h
    by_cases h2 : r.phase = ph
    · exact ⟨h1, h2⟩
    · rw [if_pos h2] at h; cases h
  · rw [if_pos h1] at h; exact absurd h h1
theorem inE_ok {r : Rep} {ph : Int} (h1 : repCheck r = 0) (h2 : r.phase = ph) : inE r ph = 0 := by
  unfold inE; rw [if_neg (by simpa using h1), if_neg (by simpa using h2)]
theorem inE_bad {r : Rep} {ph : Int} (h1 : repCheck r = 0) (h2 : r.phase ≠ ph) : inE r ph = 4 := by
  unfold inE; rw [if_neg (by simpa using h1), if_pos h2]
theorem inE_wrong {r : Rep} {ph : Int} (h1 : repCheck r ≠ 0) : inE r ph = repCheck r := by unfold inE; rw [if_pos h1]
/-- a replica that is right -/
structure RightR (r : Rep) : Prop where
  refs : checkRefs r.refs r.store = 0
  gen : 0 ≤ r.gen ∧ r.gen ≤ 999
  phase : 0 ≤ r.phase ∧ r.phase ≤ 2
  held : r.phase ≠ 0 → checkPsh r.pend = 0
  none : r.phase = 0 → r.pend = psh0
theorem rep_right {r : Rep} : repCheck r = 0 ↔ RightR r := by
  unfold repCheck
  constructor
  · intro h
    split at h
    · rename_i h1; exact absurd h h1
    · rename_i h1
      split at h
      · cases h
      · rename_i h2
        split at h
        · cases h
        · rename_i h3
          refine ⟨by simpa using h1, within_true (by simpa using h2), within_true (by simpa using h3), fun hp => ?_, fun hp => ?_⟩
          · rw [if_pos hp] at h; exact h
          · rw [if_neg (by simpa using hp)] at h
            split at h
            · rename_i h4
              rw [← samePsh_none] at h4
              exact (samePsh_iff _ _).1 h4
            · cases h
  · intro h
    rw [if_neg (by simpa using h.refs), if_neg (by simp [within, h.gen.1, h.gen.2]), if_neg (by simp [within, h.phase.1, h.phase.2])]
    by_cases hp : r.phase = 0
    · rw [if_neg (by simpa using hp), h.none hp, if_pos (by simp [emptyB, psh0])]
    · rw [if_pos hp]; exact h.held hp
theorem held_right {r : Rep} {p : Psh} (h : RightR r) (hp : checkPsh p = 0) : RightR (heldR r p) := ⟨h.refs, h.gen, ⟨by simp [heldR], by simp [heldR]⟩, fun _ => hp, fun h0 => by simp [heldR] at h0⟩
theorem voted_right {r : Rep} (h : RightR r) (hp : checkPsh r.pend = 0) : RightR (votedR r) := ⟨h.refs, h.gen, ⟨by simp [votedR], by simp [votedR]⟩, fun _ => hp, fun h0 => by simp [votedR] at h0⟩
theorem done_right {r : Rep} {p : Psh} (h : RightR r) (ht : tryE r p = 0) (hg : r.gen ≠ 999) : RightR (doneR r p) := by
  have hT := try_ok ht
  refine ⟨?_, by have := h.gen; simp only [doneR]; omega, ⟨by simp [doneR], by simp [doneR]⟩, fun hp => absurd rfl hp, fun _ => rfl⟩
  show checkRefs (tryM r p) (tryL r p) = 0
  unfold checkRefs
  rw [if_neg (by simpa using hT.store)]; exact hT.right
theorem idle_same {r : Rep} (h : RightR r) (hp : r.phase = 0) : idleR r = r := by
  have := h.none hp
  unfold idleR
  rw [← this, ← hp]
theorem prep_zero {r : Rep} {p : Psh} (h : prepE r p = 0) : RightR r ∧ r.phase = 0 ∧ checkPsh p = 0 ∧ prepR r p = heldR r p := by
  have hR : prepR r p = heldR r p := by unfold prepR; rw [if_pos h]
  unfold prepE at h
  by_cases h1 : inE r 0 = 0
  · rw [if_neg (by simpa using h1)] at h
    exact ⟨rep_right.1 (inE_zero h1).1, (inE_zero h1).2, h, hR⟩
  · rw [if_pos h1] at h; exact absurd h h1
/-- what is held apart is seen by nobody; who crashes has what it had -/
structure ApartR (r : Rep) (p : Psh) : Prop where
  a : prepR r p = heldR r p
  vot : inE (heldR r p) 1 = 0 ∧ votR (heldR r p) = votedR (heldR r p) ∧ votS (heldR r p) = voteR r p
  same : voteR r p ≠ ByteArray.empty
  ca : repCheck (heldR r p) = 0 ∧ craR (heldR r p) = r
  cb : repCheck (votedR (heldR r p)) = 0 ∧ craR (votedR (heldR r p)) = r
  fin : finE (votedR (heldR r p)) false = 0 ∧ finR (votedR (heldR r p)) false = r
theorem vote_some (r : Rep) (p : Psh) : voteR r p ≠ ByteArray.empty := by
  intro h
  have h1 : (voteR r p).size = 0 := by rw [h]; rfl
  by_cases ht : tryE r p = 0
  · have := (vote_yes ht).1; omega
  · have := vote_no ht; omega
theorem apart {r : Rep} {p : Psh} (h : prepE r p = 0) : ApartR r p := by
  obtain ⟨hr, h0, hp, hR⟩ := prep_zero h
  have hh := held_right hr hp
  have hv : RightR (votedR (heldR r p)) := voted_right hh hp
  have e1 : inE (heldR r p) 1 = 0 := inE_ok (rep_right.2 hh) rfl
  have e2 : inE (votedR (heldR r p)) 2 = 0 := inE_ok (rep_right.2 hv) rfl
  have ei : idleR r = r := idle_same hr h0
  refine ⟨hR, ⟨e1, by unfold votR; rw [if_pos e1], by unfold votS; rw [if_pos e1]; rfl⟩, vote_some r p, ⟨rep_right.2 hh, by unfold craR; rw [if_pos (rep_right.2 hh)]; exact ei⟩, ⟨rep_right.2 hv, by unfold craR; rw [if_pos (rep_right.2 hv)]; exact ei⟩, ?_⟩
  have ef : finE (votedR (heldR r p)) false = 0 := by unfold finE; rw [if_neg (by simpa using e2)]; rfl
  exact ⟨ef, by unfold finR; rw [if_pos ef]; exact ei⟩
/-- who votes yes can commit it -/
theorem steps {r : Rep} {p : Psh} (h : prepE r p = 0) : finE (votedR (heldR r p)) true = (if tryE r p ≠ 0 then tryE r p else if r.gen = 999 then 2 else 0) ∧
    (tryE r p = 0 → r.gen ≠ 999 → finR (votedR (heldR r p)) true = doneR r p ∧ repCheck (doneR r p) = 0) := by
  obtain ⟨hr, h0, hp, hR⟩ := prep_zero h
  have hv : RightR (votedR (heldR r p)) := voted_right (held_right hr hp) hp
  have e2 : inE (votedR (heldR r p)) 2 = 0 := inE_ok (rep_right.2 hv) rfl
  have ef : finE (votedR (heldR r p)) true = (if tryE r p ≠ 0 then tryE r p else if r.gen = 999 then 2 else 0) := by
    unfold finE; rw [if_neg (by simpa using e2)]; rfl
  refine ⟨ef, fun ht hg => ⟨?_, rep_right.2 (done_right hr ht hg)⟩⟩
  unfold finR
  rw [if_pos (by rw [ef, if_neg (by simpa using ht), if_neg hg])]; rfl
end Go.Proofs.YtdhoodloklgokaaGreatDoor
