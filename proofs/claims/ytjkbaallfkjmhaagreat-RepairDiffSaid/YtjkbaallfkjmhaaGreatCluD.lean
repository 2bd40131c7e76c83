
/- CluD: walks of CheckCluster, SameCluster, clusterIs. -/
import Derived.Test.YtjkbaallfkjmhaaGreatCluC
import Derived.Deep.RegionHeld3
namespace Go.Proofs.YtjkbaallfkjmhaaGreat
open Go.RowKit
set_option linter.unusedVariables false
set_option linter.unusedSimpArgs false

/-- are they the same? -/
def sameClu (a b : List Rep) : Bool := decide (a.length = b.length) && (List.range a.length).all fun k => sameRep (rep a k) (rep b k)
theorem sameClu_len {a b : List Rep} (h : a.length ≠ b.length) : sameClu a b = false := by unfold sameClu; simp [h]
theorem sameClu_at {a b : List Rep} {k : Nat} (hk : k < a.length) (h : sameRep (rep a k) (rep b k) = false) : sameClu a b = false := by
  unfold sameClu
  have : ((List.range a.length).all fun k => sameRep (rep a k) (rep b k)) = false := by
    rw [List.all_eq_false]; exact ⟨k, List.mem_range.2 hk, by simp [h]⟩
  rw [this, Bool.and_false]
theorem sameClu_all {a b : List Rep} (hl : a.length = b.length) (h : ∀ k, k < a.length → sameRep (rep a k) (rep b k) = true) : sameClu a b = true := by
  unfold sameClu
  rw [decide_eq_true hl, Bool.true_and, List.all_eq_true]
  exact fun k hk => h k (List.mem_range.1 hk)
theorem sameClu_iff (a b : List Rep) : sameClu a b = true ↔ a = b := by
  constructor
  · intro h
    unfold sameClu at h
    rw [Bool.and_eq_true, decide_eq_true_eq, List.all_eq_true] at h
    refine List.ext_getElem h.1 fun i h1 h2 => ?_
    have := (sameRep_iff _ _).1 (h.2 i (List.mem_range.2 h1))
    rw [rep_lt h1, rep_lt h2] at this; exact this
  · rintro rfl; exact sameClu_all rfl fun k _ => (sameRep_iff _ _).2 rfl

/-- is a cluster what it must be beside an errno? -/
def cluIsB (l : List Rep) (e c : Int) (want : List Rep) : Bool := (e == c) && sameClu l (if c = 0 then want else [])
theorem cluIsB_same (l : List Rep) (c : Int) (h : c ≠ 0 → l = []) : cluIsB l c c l = true := by
  unfold cluIsB
  by_cases hc : c = 0
  · rw [if_pos hc, (sameClu_iff _ _).2 rfl]; simp
  · rw [if_neg hc, h hc, (sameClu_iff _ _).2 rfl]; simp

end Go.Proofs.YtjkbaallfkjmhaaGreat
