
/- VoteQ: the plain law of votes: what is wrong is told by a digit. No program here. -/
import Derived.Test.YtdhoodloklgokaaGreatDoorUpdL
import Derived.Test.YtdhoodloklgokaaGreatDoorPushA
namespace Go.Proofs.YtdhoodloklgokaaGreatDoor
open Go.RowKit
set_option linter.unusedVariables false
set_option linter.unusedSimpArgs false

/-- one digit -/
def Digit (e : Int) : Prop := 0 ≤ e ∧ e ≤ 9
theorem dig_ite {c : Prop} [Decidable c] {a b : Int} (ha : Digit a) (hb : Digit b) : Digit (if c then a else b) := by
  by_cases h : c
  · rw [if_pos h]; exact ha
  · rw [if_neg h]; exact hb
theorem dig_scan {f : Nat → Int} (h : ∀ k, Digit (f k)) : ∀ n, Digit (scan f n)
  | 0 => ⟨(by decide : (0 : Int) ≤ 0), (by decide : (0 : Int) ≤ 9)⟩
  | n + 1 => by unfold scan; exact dig_ite (h n) (dig_scan h n)
theorem dig_link (o : Obj) (i : Nat) : Digit (linkBad o i) := by unfold linkBad; repeat' (first | exact ⟨by decide, by decide⟩ | refine dig_ite ?_ ?_)
theorem dig_links (o : Obj) : Digit (linksErr o) := by
  have := dig_scan (dig_link o) o.links.length
  unfold linksErr; repeat' (first | exact this | exact ⟨by decide, by decide⟩ | refine dig_ite ?_ ?_)
theorem dig_obj (o : Obj) : Digit (checkObj o) := by
  have := dig_links o
  unfold checkObj; repeat' (first | exact this | exact ⟨by decide, by decide⟩ | refine dig_ite ?_ ?_)
theorem dig_linkErr (o : Obj) (k : Nat) (kind : Int) : Digit (linkErr o k kind) := by unfold linkErr; repeat' (first | exact ⟨by decide, by decide⟩ | refine dig_ite ?_ ?_)
theorem dig_objErr (l : List Obj) (i : Nat) : Digit (objErr l i) := by
  have h1 := dig_obj (obj l i)
  have h2 := dig_scan (fun k => dig_linkErr (obj l i) k (kindOf (l.take i) (nth (obj l i).links k))) (obj l i).links.length
  unfold objErr; repeat' (first | exact h1 | exact h2 | exact ⟨by decide, by decide⟩ | refine dig_ite ?_ ?_)
theorem dig_store (l : List Obj) : Digit (checkStore l) := by
  have := dig_scan (dig_objErr l) l.length
  unfold checkStore; repeat' (first | exact this | exact ⟨by decide, by decide⟩ | refine dig_ite ?_ ?_)
theorem dig_name (s : ByteArray) : Digit (nameErr s) := by unfold nameErr; repeat' (first | exact ⟨by decide, by decide⟩ | refine dig_ite ?_ ?_)
theorem dig_commit (l : List Obj) (id : Int) : Digit (commitErr l id) := by unfold commitErr; repeat' (first | exact ⟨by decide, by decide⟩ | refine dig_ite ?_ ?_)
theorem dig_ref (l : List Rf) (objs : List Obj) (i : Nat) : Digit (refErr l objs i) := by
  have h1 := dig_name (rf l i).name
  have h2 := dig_commit objs (rf l i).id
  unfold refErr; repeat' (first | exact h1 | exact h2 | exact ⟨by decide, by decide⟩ | refine dig_ite ?_ ?_)
theorem dig_pair (l : List Rf) (i k : Nat) : Digit (pairErr l i k) := by unfold pairErr; repeat' (first | exact ⟨by decide, by decide⟩ | refine dig_ite ?_ ?_)
theorem dig_right (l : List Rf) (objs : List Obj) : Digit (rightErr l objs) := by
  have h1 := dig_scan (dig_ref l objs) l.length
  have h2 := dig_scan (fun i => dig_scan (dig_pair l i) l.length) l.length
  unfold rightErr; repeat' (first | exact h1 | exact h2 | exact ⟨by decide, by decide⟩ | refine dig_ite ?_ ?_)
theorem dig_refs (l : List Rf) (objs : List Obj) : Digit (checkRefs l objs) := by
  unfold checkRefs; repeat' (first | exact dig_store objs | exact dig_right l objs | exact ⟨by decide, by decide⟩ | refine dig_ite ?_ ?_)
theorem dig_mv (l : List Mv) (i : Nat) : Digit (mvErr l i) := by
  have h1 := dig_name (mv l i).name
  unfold mvErr; repeat' (first | exact h1 | exact ⟨by decide, by decide⟩ | refine dig_ite ?_ ?_)
theorem dig_mvs (l : List Mv) : Digit (checkMvs l) := by
  have := dig_scan (dig_mv l) l.length
  unfold checkMvs; repeat' (first | exact this | exact ⟨by decide, by decide⟩ | refine dig_ite ?_ ?_)
theorem dig_move (l : List Rf) (objs : List Obj) (u : Mv) (f : Bool) : Digit (moveErr l objs u f) := by
  have := dig_commit objs u.new
  unfold moveErr; repeat' (first | exact this | exact ⟨by decide, by decide⟩ | refine dig_ite ?_ ?_)
theorem dig_moved (l : List Rf) (objs : List Obj) (us : List Mv) (f : Bool) : Digit (movedE l objs us f) := by
  unfold movedE; repeat' (first | exact dig_right _ _ | exact dig_scan (fun k => dig_move _ _ _ _) _ | exact ⟨by decide, by decide⟩ | refine dig_ite ?_ ?_)
theorem dig_apply (l : List Rf) (objs : List Obj) (us : List Mv) (f : Bool) : Digit (applyE l objs us f) := by
  unfold applyE; repeat' (first | exact dig_refs _ _ | exact dig_mvs _ | exact dig_moved _ _ _ _ | exact ⟨by decide, by decide⟩ | refine dig_ite ?_ ?_)
theorem dig_joinE (l : List Obj) (o : Obj) : Digit (joinE l o) := by unfold joinE; repeat' (first | exact ⟨by decide, by decide⟩ | refine dig_ite ?_ ?_)
theorem dig_with (l more : List Obj) : Digit (withE l more) := by
  have h1 := dig_scan (fun k => dig_joinE (joined l more k) (obj more k)) more.length
  have h2 := dig_store (joined l more more.length)
  unfold withE; repeat' (first | exact h1 | exact h2 | exact ⟨by decide, by decide⟩ | refine dig_ite ?_ ?_)
theorem dig_add (l more : List Obj) : Digit (addE l more) := by
  have h1 := dig_store l
  have h2 := dig_scan (fun k => dig_obj (obj more k)) more.length
  have h3 := dig_with l more
  unfold addE; repeat' (first | exact h1 | exact h2 | exact h3 | exact ⟨by decide, by decide⟩ | refine dig_ite ?_ ?_)
theorem dig_try (r : Rep) (p : Psh) : Digit (tryE r p) := by
  unfold tryE; repeat' (first | exact dig_add _ _ | exact dig_apply _ _ _ _ | exact ⟨by decide, by decide⟩ | refine dig_ite ?_ ?_)

/-- what a replica votes for a push that is right -/
def noB : ByteArray := ⟨#[110, 111, 32]⟩
def yesSp : ByteArray := ⟨#[121, 101, 115, 32]⟩
def voteR (r : Rep) (p : Psh) : ByteArray := if tryE r p ≠ 0 then noB ++ decB (tryE r p) else yesSp ++ decB r.gen ++ spB ++ textL p.updates
end Go.Proofs.YtdhoodloklgokaaGreatDoor
