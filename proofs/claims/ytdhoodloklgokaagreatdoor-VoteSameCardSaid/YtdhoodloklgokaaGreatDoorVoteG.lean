
/- VoteG: texts are appended to an empty row of the call's own; the plain law of votes of one push. -/
import Derived.Test.YtdhoodloklgokaaGreatDoorVoteF
import Derived.Test.YtdhoodloklgokaaGreatDoorUpdL
namespace Go.Proofs.YtdhoodloklgokaaGreatDoor
open Go.RowKit
set_option linter.unusedVariables false
set_option linter.unusedSimpArgs false

/-- a fact on worlds as a class, which the walk does not open -/
theorem as_class (p : World → Prop) {x : World} (h : p x) : ∃ C : World → Prop, In C x ∧ (∀ z, In C z → p z) ∧ (∀ z, p z → In C z) := ⟨p, h, fun _ h => h, fun _ h => h⟩
theorem StrsV.bytes {S : Nat → Prop} {w : World} {v : Value} {l : List ByteArray} (h : StrsV S w v l) : l.length * 16 ≤ 140737488351232 := by obtain ⟨⟨_, _, _, _, _, h, _⟩, _⟩ := h; exact h

theorem dec_digit {n : Int} (h : Digit n) : (decB n).size = 1 := by
  obtain ⟨h0, h1⟩ := h
  have : n = 0 ∨ n = 1 ∨ n = 2 ∨ n = 3 ∨ n = 4 ∨ n = 5 ∨ n = 6 ∨ n = 7 ∨ n = 8 ∨ n = 9 := by omega
  rcases this with rfl | rfl | rfl | rfl | rfl | rfl | rfl | rfl | rfl | rfl <;> decide +kernel
theorem vote_no {r : Rep} {p : Psh} (h : tryE r p ≠ 0) : (voteR r p).size = 4 := by
  unfold voteR; rw [if_pos h]
  rw [ByteArray.size_append, dec_digit (dig_try r p)]; rfl
theorem vote_yes {r : Rep} {p : Psh} (h : tryE r p = 0) : 4 < (voteR r p).size ∧ ((voteR r p).extract 0 4).toList = [121, 101, 115, 32] := by
  unfold voteR; rw [if_neg (by simpa using h)]
  generalize decB r.gen = ds
  generalize textL p.updates = tx
  have hs : (yesSp ++ ds ++ spB ++ tx).size = 4 + ds.size + 1 + tx.size := by
    rw [ByteArray.size_append, ByteArray.size_append, ByteArray.size_append]; rfl
  refine ⟨by omega, ?_⟩
  have e : (yesSp ++ ds ++ spB ++ tx).extract 0 4 = yesSp := by
    apply ByteArray.ext
    rw [ByteArray.data_extract, ByteArray.data_append, ByteArray.data_append, ByteArray.data_append]
    apply Array.toList_inj.1
    rw [Array.toList_extract, Array.toList_append, Array.toList_append, Array.toList_append]
    rfl
  rw [e]; decide +kernel
/-- the two ends change places -/
def swapM (us : List Mv) : List Mv := (us.set 0 (mv us (us.length - 1))).set (us.length - 1) (mv us 0)
theorem swap_perm {us : List Mv} (h : 1 < us.length) : (swapM us).Perm us := by
  unfold swapM
  rw [mv_lt (show 0 < us.length by omega), mv_lt (show us.length - 1 < us.length by omega)]
  exact List.set_set_perm (by omega) (by omega)
theorem ofE_perm {r : Rep} {p : Psh} {us : List Mv} (hp : us.Perm p.updates) (h : ofE r p = 0) : ofE r ⟨p.objects, us, p.force⟩ = 0 := by
  unfold ofE at h ⊢
  have hc : checkPsh p = 0 := by
    by_cases hc : checkPsh p = 0
    · exact hc
    · rw [if_pos hc] at h; exact h
  obtain ⟨c1, c2, c3⟩ := checkPsh_zero hc
  have hc2 : checkPsh ⟨p.objects, us, p.force⟩ = 0 := by
    unfold checkPsh; rw [if_neg (by show ¬ 12 < p.objects.length; omega), if_neg (by simpa using c2)]; exact (checkMvs_perm hp).1 c3
  rw [if_neg (by simpa using hc)] at h
  rw [if_neg (by simpa using hc2)]; exact h
theorem ofE_check {r : Rep} {p : Psh} (h : ofE r p = 0) : checkPsh p = 0 := by
  unfold ofE at h
  by_cases hc : checkPsh p = 0
  · exact hc
  · rw [if_pos hc] at h; exact h
theorem vote_perm {r : Rep} {p : Psh} {us : List Mv} (hp : us.Perm p.updates) (h : ofE r p = 0) (ht : tryE r p = 0) : voteR r ⟨p.objects, us, p.force⟩ = voteR r p := by
  have hok := mvs_ok.1 (checkPsh_zero (ofE_check h)).2.2
  have ha : addE r.store p.objects = 0 := by
    unfold tryE at ht
    by_cases ha : addE r.store p.objects = 0
    · exact ha
    · rw [if_pos ha] at ht; exact ht
  have h1 : applyE r.refs (addL r.store p.objects) p.updates p.force = 0 := by
    unfold tryE at ht; rw [if_neg (by simpa using ha)] at ht; exact ht
  have h2 : tryE r ⟨p.objects, us, p.force⟩ = 0 := by
    unfold tryE; rw [if_neg (by simpa using ha)]
    exact (apply_perm p.force hp).1.1 h1
  unfold voteR
  rw [if_neg (by simpa using h2), if_neg (by simpa using ht)]
  show yesSp ++ decB r.gen ++ spB ++ textL us = _
  rw [text_perm hok hp]
end Go.Proofs.YtdhoodloklgokaaGreatDoor
