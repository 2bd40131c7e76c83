
/- Walks: voteBegun. -/
import Derived.Test.YtjdgpgfiomnjkaaGreatDoorQ25
import Derived.Test.YtjdgpgfiomnjkaaGreatDoorQ26
import Derived.Test.YtjdgpgfiomnjkaaGreatDoorQ23
import Derived.Test.YtjdgpgfiomnjkaaGreatDoorQ19
namespace Go.Proofs.YtjdgpgfiomnjkaaGreatDoor
open Go.RowKit
set_option linter.unusedVariables false
set_option linter.unusedSimpArgs false
set_option linter.unusedSectionVars false
variable [Ghost]
theorem strs_new (w : World) (l : List ByteArray) (t : TypeId) (N : Nat) (hN : N = w.heap.size) (hl : l.length ≤ 1000) (h : ∀ s ∈ l, s.size ≤ 140737488351232) :
  StrsV (fun b => b = N) (w.alloc (.cells (l.map Value.string).toArray t)) (.slice (some ⟨N, 0, none⟩) l.length l.length) l := by
 refine StrsV.mk (Nat.le_refl _) (by omega) (by omega) ⟨rfl, Fre.of_block (by subst hN; exact heap_alloc_new w _)⟩ (fun i hi => ?_) h
 rw [Nat.zero_add]
 refine block_cell (cs := (l.map Value.string).toArray) (t := t) (fz := (0, 0)) (by subst hN; exact heap_alloc_new w _) ?_
 rw [sa_lt hi]; simp [hi]
def y7 : ByteArray := ⟨#[121, 101, 115, 32, 55, 32, 109, 97, 105, 110, 32, 51, 32, 54, 59]⟩
def n5 : ByteArray := ⟨#[110, 111, 32, 53]⟩
theorem vb1 : ofE hostR comeP = 0 := by decide +kernel
theorem vb2 : ofS hostR comeP = y7 := by decide +kernel
theorem vb3 : ofE rep0 comeP = 0 := by decide +kernel
theorem vb4 : ofS rep0 comeP = n5 := by decide +kernel
theorem vb5 : tallyS [y7, ⟨#[]⟩, y7] = (y7, true) := by decide +kernel
theorem vb6 : tallyS [y7, n5, ⟨#[]⟩] = (⟨#[]⟩, false) := by decide +kernel
set_option maxRecDepth 100000 in
set_option maxHeartbeats 4000000 in
theorem voteBegun_any (w : World) (ht : Tab w) : Calls Tryz.prog 14 #[] w fun e w' => e = .returned (.bool true) ∧ Below w.heap.size w w' := by
 have HT0 := Lib.hid ht
 clear ht
 go_enter Tryz.func14, Tryz.ntmps14
 go_wp2_with fail
 refine (host_any _).mono ?_
 rintro e w1 ⟨sv, rv, ov, uv, rfl, hr, hb1⟩
 have Hr := Lib.hid hr
 have HB1 := Lib.hid hb1
 clear hr hb1
 go_wp2_with fail
 refine (come_any _).mono ?_
 rintro e w2 ⟨ov2, uv2, rfl, ho2, hu2, hb2⟩
 have HB2 := Lib.hid (HB1.out.trans (hb2.mono HB1.out.size))
 have hO := of_any hostR comeP _ _ _ _ _ _ _ _ _ _ w2 (Hr.out.store.below hb2) (Hr.out.refs.below hb2) ho2 hu2 ⟨StoreV.shape3 Hr.out.objs, MvsV.shape3 Hr.out.upds⟩ (HT0.out.below HB2.out)
 rw [vb1, vb2] at hO
 have HO := Lib.hid hO
 clear hO ho2 hu2 hb2 Hr HB1
 go_wp2_with fail
 refine HO.out.mono ?_
 rintro e w3 ⟨rfl, hb3⟩
 have HB3 := Lib.hid (HB2.out.trans (hb3.mono HB2.out.size))
 clear HO HB2 hb3
 go_wp2_with fail
 refine (come_any _).mono ?_
 rintro e w4 ⟨ov4, uv4, rfl, ho4, hu4, hb4⟩
 have HB4 := Lib.hid (HB3.out.trans (hb4.mono HB3.out.size))
 have hO := of_any rep0 comeP (.slice none 0 0) (.slice none 0 0) _ _ (.slice none 0 0) (.slice none 0 0) (fun _ => True) (fun _ => True) _ _ w4 (StoreV.nil _ _ _ _ (by omega)) (RefsV.nil _ _ _ _ (by omega)) ho4 hu4 ⟨⟨_, _, _, rfl⟩, ⟨_, _, _, rfl⟩⟩ (HT0.out.below HB4.out)
 rw [vb3, vb4] at hO
 have HO := Lib.hid hO
 clear hO ho4 hu4 hb4 HB3
 go_wp2_with fail
 refine HO.out.mono ?_
 rintro e w5 ⟨rfl, hb5⟩
 have HB5 := Lib.hid (HB4.out.trans (hb5.mono HB4.out.size))
 clear HO HB4 hb5
 have hS := strs_new w5 [y7, ⟨#[]⟩, y7] 9 _ rfl (by decide) (by intro s hs; simp only [List.mem_cons, List.not_mem_nil, or_false] at hs; rcases hs with rfl | rfl | rfl <;> decide)
 have hT := tally_any _ _ _ _ hS
 rw [vb5] at hT
 have HT5 := Lib.hid hT
 clear hS hT
 go_wp2_with fail
 refine HT5.out.mono ?_
 rintro e w6 ⟨rfl, hb6⟩
 have HB6 := Lib.hid ((HB5.out.alloc HB5.out.size (.cells #[.string y7, .string ⟨#[]⟩, .string y7] 9)).trans (hb6.mono (by have := HB5.out.size; simp; omega)))
 clear HT5 hb6 HB5
 have hS := strs_new w6 [y7, n5, ⟨#[]⟩] 9 _ rfl (by decide) (by intro s hs; simp only [List.mem_cons, List.not_mem_nil, or_false] at hs; rcases hs with rfl | rfl | rfl <;> decide)
 have hT := tally_any _ _ _ _ hS
 rw [vb6] at hT
 have HT6 := Lib.hid hT
 clear hS hT
 go_wp2_with fail
 refine HT6.out.mono ?_
 rintro e w7 ⟨rfl, hb7⟩
 have HB7 := Lib.hid ((HB6.out.alloc HB6.out.size (.cells #[.string y7, .string n5, .string ⟨#[]⟩] 9)).trans (hb7.mono (by have := HB6.out.size; simp; omega)))
 clear HT6 hb7 HB6
 have q1 : (y7.toList == [121, 101, 115, 32, 55, 32, 109, 97, 105, 110, 32, 51, 32, 54, 59]) = true := by decide +kernel
 have q2 : (n5.toList == [110, 111, 32, 53]) = true := by decide +kernel
 have q3 : (y7.toList == y7.toList) = true := by simp
 go_wp2_with fail
 go_ret
 exact ⟨rfl, HB7.out⟩
end Go.Proofs.YtjdgpgfiomnjkaaGreatDoor
namespace Go.Proofs.YtjdgpgfiomnjkaaGreatDoor
open Go.RowKit
set_option linter.unusedVariables false
set_option linter.unusedSimpArgs false
set_option linter.unusedSectionVars false
variable [Ghost]
theorem as_class (p : World → Prop) {x : World} (h : p x) : ∃ C : World → Prop, In C x ∧ (∀ z, In C z → p z) ∧ (∀ z, p z → In C z) := ⟨p, h, fun _ h => h, fun _ h => h⟩
theorem StrsV.bytes {S : Nat → Prop} {w : World} {v : Value} {l : List ByteArray} (h : StrsV S w v l) : l.length * 16 ≤ 140737488351232 := by obtain ⟨⟨_, _, _, _, _, h, _⟩, _⟩ := h; exact h
theorem dec_digit {n : Int} (h : Digit n) : (decB n).size = 1 := by
 obtain ⟨h0, h1⟩ := h
 have : n = 0 ∨ n = 1 ∨ n = 2 ∨ n = 3 ∨ n = 4 ∨ n = 5 ∨ n = 6 ∨ n = 7 ∨ n = 8 ∨ n = 9 := by omega
 rcases this with rfl | rfl | rfl | rfl | rfl | rfl | rfl | rfl | rfl | rfl <;> decide +kernel
theorem vote_no {r : Rep} {p : Psh} (h : tryE r p ≠ 0) : (voteR r p).size = 4 := by
 unfold voteR; rw [if_pos h]
 rw [ByteArray.size_append, dec_digit (dig_try r p)]; rfl
theorem vote_yes {r : Rep} {p : Psh} (h : tryE r p = 0) : 4 < (voteR r p).size ∧ ((voteR r p).extract 0 4).toList = [121, 101, 115, 32] := by
 unfold voteR; rw [if_neg (by simpa using h)]
 generalize decB r.gen = ds
 generalize textL p.updates = tx
 have hs : (yesSp ++ ds ++ spB ++ tx).size = 4 + ds.size + 1 + tx.size := by
  rw [ByteArray.size_append, ByteArray.size_append, ByteArray.size_append]; rfl
 refine ⟨by omega, ?_⟩
 have e : (yesSp ++ ds ++ spB ++ tx).extract 0 4 = yesSp := by
  apply ByteArray.ext
  rw [ByteArray.data_extract, ByteArray.data_append, ByteArray.data_append, ByteArray.data_append]
  apply Array.toList_inj.1
  rw [Array.toList_extract, Array.toList_append, Array.toList_append, Array.toList_append]
  rfl
 rw [e]; decide +kernel
end Go.Proofs.YtjdgpgfiomnjkaaGreatDoor
namespace Go.Proofs.YtjdgpgfiomnjkaaGreatDoor
open Go.RowKit
set_option linter.unusedVariables false
set_option linter.unusedSimpArgs false
set_option linter.unusedSectionVars false
variable [Ghost]
def idleR (r : Rep) : Rep := ⟨r.store, r.refs, r.gen, 0, psh0⟩
def inE (r : Rep) (ph : Int) : Int := if repCheck r ≠ 0 then repCheck r else if r.phase ≠ ph then 4 else 0
def heldR (r : Rep) (p : Psh) : Rep := ⟨r.store, r.refs, r.gen, 1, p⟩
def prepE (r : Rep) (p : Psh) : Int := if inE r 0 ≠ 0 then inE r 0 else checkPsh p
def prepR (r : Rep) (p : Psh) : Rep := if prepE r p = 0 then heldR r p else rep0
def votedR (r : Rep) : Rep := ⟨r.store, r.refs, r.gen, 2, r.pend⟩
def votR (r : Rep) : Rep := if inE r 1 = 0 then votedR r else rep0
def votS (r : Rep) : ByteArray := if inE r 1 = 0 then voteR r r.pend else ByteArray.empty
def commE (r : Rep) : Int := if tryE r r.pend ≠ 0 then tryE r r.pend else if r.gen = 999 then 2 else 0
def doneR (r : Rep) (p : Psh) : Rep := ⟨tryL r p, tryM r p, r.gen + 1, 0, psh0⟩
def endE (r : Rep) (commit : Bool) : Int := if commit = true then commE r else 0
def endR (r : Rep) (commit : Bool) : Rep := if commit = true then doneR r r.pend else idleR r
def finE (r : Rep) (commit : Bool) : Int := if inE r 2 ≠ 0 then inE r 2 else endE r commit
def finR (r : Rep) (commit : Bool) : Rep := if finE r commit = 0 then endR r commit else rep0
def craR (r : Rep) : Rep := if repCheck r = 0 then idleR r else rep0
theorem inE_zero {r : Rep} {ph : Int} (h : inE r ph = 0) : repCheck r = 0 ∧ r.phase = ph := by
 unfold inE at h
 by_cases h1 : repCheck r = 0
 ·rw [if_neg (by simpa using h1)] at h
  by_cases h2 : r.phase = ph
  ·exact ⟨h1, h2⟩
  ·rw [if_pos h2] at h; cases h
 ·rw [if_pos h1] at h; exact absurd h h1
theorem inE_ok {r : Rep} {ph : Int} (h1 : repCheck r = 0) (h2 : r.phase = ph) : inE r ph = 0 := by
 unfold inE; rw [if_neg (by simpa using h1), if_neg (by simpa using h2)]
theorem inE_bad {r : Rep} {ph : Int} (h1 : repCheck r = 0) (h2 : r.phase ≠ ph) : inE r ph = 4 := by
 unfold inE; rw [if_neg (by simpa using h1), if_pos h2]
theorem inE_wrong {r : Rep} {ph : Int} (h1 : repCheck r ≠ 0) : inE r ph = repCheck r := by unfold inE; rw [if_pos h1]
structure RightR (r : Rep) : Prop where
 refs : checkRefs r.refs r.store = 0
 gen : 0 ≤ r.gen ∧ r.gen ≤ 999
 phase : 0 ≤ r.phase ∧ r.phase ≤ 2
 held : r.phase ≠ 0 → checkPsh r.pend = 0
 none : r.phase = 0 → r.pend = psh0
theorem rep_right {r : Rep} : repCheck r = 0 ↔ RightR r := by
 unfold repCheck
 constructor
 ·intro h
  split at h
  ·rename_i h1; exact absurd h h1
  ·rename_i h1
   split at h
   ·cases h
   ·rename_i h2
    split at h
    ·cases h
    ·rename_i h3
     refine ⟨by simpa using h1, within_true (by simpa using h2), within_true (by simpa using h3), fun hp => ?_, fun hp => ?_⟩
     ·rw [if_pos hp] at h; exact h
     ·rw [if_neg (by simpa using hp)] at h
      split at h
      ·rename_i h4
       rw [← samePsh_none] at h4
       exact (samePsh_iff _ _).1 h4
      ·cases h
 ·intro h
  rw [if_neg (by simpa using h.refs), if_neg (by simp [within, h.gen.1, h.gen.2]), if_neg (by simp [within, h.phase.1, h.phase.2])]
  by_cases hp : r.phase = 0
  ·rw [if_neg (by simpa using hp), h.none hp, if_pos (by simp [emptyB, psh0])]
  ·rw [if_pos hp]; exact h.held hp
theorem held_right {r : Rep} {p : Psh} (h : RightR r) (hp : checkPsh p = 0) : RightR (heldR r p) := ⟨h.refs, h.gen, ⟨by simp [heldR], by simp [heldR]⟩, fun _ => hp, fun h0 => by simp [heldR] at h0⟩
theorem voted_right {r : Rep} (h : RightR r) (hp : checkPsh r.pend = 0) : RightR (votedR r) := ⟨h.refs, h.gen, ⟨by simp [votedR], by simp [votedR]⟩, fun _ => hp, fun h0 => by simp [votedR] at h0⟩
theorem done_right {r : Rep} {p : Psh} (h : RightR r) (ht : tryE r p = 0) (hg : r.gen ≠ 999) : RightR (doneR r p) := by
 have hT := try_ok ht
 refine ⟨?_, by have := h.gen; simp only [doneR]; omega, ⟨by simp [doneR], by simp [doneR]⟩, fun hp => absurd rfl hp, fun _ => rfl⟩
 show checkRefs (tryM r p) (tryL r p) = 0
 unfold checkRefs
 rw [if_neg (by simpa using hT.store)]; exact hT.right
theorem idle_same {r : Rep} (h : RightR r) (hp : r.phase = 0) : idleR r = r := by
 have := h.none hp
 unfold idleR
 rw [← this, ← hp]
theorem prep_zero {r : Rep} {p : Psh} (h : prepE r p = 0) : RightR r ∧ r.phase = 0 ∧ checkPsh p = 0 ∧ prepR r p = heldR r p := by
 have hR : prepR r p = heldR r p := by unfold prepR; rw [if_pos h]
 unfold prepE at h
 by_cases h1 : inE r 0 = 0
 ·rw [if_neg (by simpa using h1)] at h
  exact ⟨rep_right.1 (inE_zero h1).1, (inE_zero h1).2, h, hR⟩
 ·rw [if_pos h1] at h; exact absurd h h1
structure ApartR (r : Rep) (p : Psh) : Prop where
 a : prepR r p = heldR r p
 vot : inE (heldR r p) 1 = 0 ∧ votR (heldR r p) = votedR (heldR r p) ∧ votS (heldR r p) = voteR r p
 same : voteR r p ≠ ByteArray.empty
 ca : repCheck (heldR r p) = 0 ∧ craR (heldR r p) = r
 cb : repCheck (votedR (heldR r p)) = 0 ∧ craR (votedR (heldR r p)) = r
 fin : finE (votedR (heldR r p)) false = 0 ∧ finR (votedR (heldR r p)) false = r
theorem vote_some (r : Rep) (p : Psh) : voteR r p ≠ ByteArray.empty := by
 intro h
 have h1 : (voteR r p).size = 0 := by rw [h]; rfl
 by_cases ht : tryE r p = 0
 ·have := (vote_yes ht).1; omega
 ·have := vote_no ht; omega
theorem apart {r : Rep} {p : Psh} (h : prepE r p = 0) : ApartR r p := by
 obtain ⟨hr, h0, hp, hR⟩ := prep_zero h
 have hh := held_right hr hp
 have hv : RightR (votedR (heldR r p)) := voted_right hh hp
 have e1 : inE (heldR r p) 1 = 0 := inE_ok (rep_right.2 hh) rfl
 have e2 : inE (votedR (heldR r p)) 2 = 0 := inE_ok (rep_right.2 hv) rfl
 have ei : idleR r = r := idle_same hr h0
 refine ⟨hR, ⟨e1, by unfold votR; rw [if_pos e1], by unfold votS; rw [if_pos e1]; rfl⟩, vote_some r p, ⟨rep_right.2 hh, by unfold craR; rw [if_pos (rep_right.2 hh)]; exact ei⟩, ⟨rep_right.2 hv, by unfold craR; rw [if_pos (rep_right.2 hv)]; exact ei⟩, ?_⟩
 have ef : finE (votedR (heldR r p)) false = 0 := by unfold finE; rw [if_neg (by simpa using e2)]; rfl
 exact ⟨ef, by unfold finR; rw [if_pos ef]; exact ei⟩
theorem steps {r : Rep} {p : Psh} (h : prepE r p = 0) : finE (votedR (heldR r p)) true = (if tryE r p ≠ 0 then tryE r p else if r.gen = 999 then 2 else 0) ∧
  (tryE r p = 0 → r.gen ≠ 999 → finR (votedR (heldR r p)) true = doneR r p ∧ repCheck (doneR r p) = 0) := by
 obtain ⟨hr, h0, hp, hR⟩ := prep_zero h
 have hv : RightR (votedR (heldR r p)) := voted_right (held_right hr hp) hp
 have e2 : inE (votedR (heldR r p)) 2 = 0 := inE_ok (rep_right.2 hv) rfl
 have ef : finE (votedR (heldR r p)) true = (if tryE r p ≠ 0 then tryE r p else if r.gen = 999 then 2 else 0) := by
  unfold finE; rw [if_neg (by simpa using e2)]; rfl
 refine ⟨ef, fun ht hg => ⟨?_, rep_right.2 (done_right hr ht hg)⟩⟩
 unfold finR
 rw [if_pos (by rw [ef, if_neg (by simpa using ht), if_neg hg])]; rfl
end Go.Proofs.YtjdgpgfiomnjkaaGreatDoor
