
/- Walks: refs moved: put, move. -/
import Derived.Test.YtjkbaallfkjmhaaGreatUpdB
import Derived.Test.YtjkbaallfkjmhaaGreatStoreLaw
namespace Go.Proofs.YtjkbaallfkjmhaaGreat
open Go.RowKit
set_option linter.unusedVariables false
set_option linter.unusedSimpArgs false

theorem StoreV.low {B : Nat} {w w' : World} {v : Value} {l : List Obj} (h : StoreV (fun b => b < B) w v l) (hb : Below B w w') : StoreV (fun b => b < B) w' v l :=
  h.same fun b hS => hb.block b hS
theorem kind_id {objs : List Obj} (hR : Right objs) {id : Int} (h : kindOf objs id ≠ 0) : id ≠ 0 := by
  intro e
  subst e
  unfold kindOf at h
  cases hf : objs.find? (fun o => o.id == 0) with
  | none => rw [hf] at h; exact h rfl
  | some o =>
    have h1 := List.find?_some hf
    obtain ⟨i, hi, rfl⟩ := mem_obj (List.mem_of_find?_eq_some hf)
    have h2 := checkObj_ok (hR.each i hi)
    have h3 : (obj objs i).id = 0 := by simpa using h1
    omega
theorem moveErr_state {l : List Rf} {objs : List Obj} {u : Mv} {force : Bool} (h : idOf l u.name ≠ u.old) : moveErr l objs u force = 4 := by unfold moveErr; rw [if_pos h]
theorem moveErr_gone {l : List Rf} {objs : List Obj} {u : Mv} {force : Bool} (h : idOf l u.name = u.old) (hn : u.new = 0) : moveErr l objs u force = 0 := by unfold moveErr; rw [if_neg (by simp [h]), if_pos hn]
theorem moveErr_commit {l : List Rf} {objs : List Obj} {u : Mv} {force : Bool} (h : idOf l u.name = u.old) (hn : u.new ≠ 0) (hc : commitErr objs u.new ≠ 0) : moveErr l objs u force = commitErr objs u.new := by unfold moveErr; rw [if_neg (by simp [h]), if_neg hn, if_pos hc]
theorem moveErr_behind {l : List Rf} {objs : List Obj} {u : Mv} {force : Bool} (h : idOf l u.name = u.old) (hn : u.new ≠ 0) (hc : commitErr objs u.new = 0) (hb : u.old ≠ 0 ∧ force = false ∧ behindB objs u.old u.new = false) : moveErr l objs u force = 4 := by
  unfold moveErr; rw [if_neg (by simp [h]), if_neg hn, if_neg (by simp [hc]), if_pos hb]
theorem moveErr_ok {l : List Rf} {objs : List Obj} {u : Mv} {force : Bool} (h : idOf l u.name = u.old) (hn : u.new ≠ 0) (hc : commitErr objs u.new = 0) (hb : ¬ (u.old ≠ 0 ∧ force = false ∧ behindB objs u.old u.new = false)) : moveErr l objs u force = 0 := by
  unfold moveErr; rw [if_neg (by simp [h]), if_neg hn, if_neg (by simp [hc]), if_neg hb]

end Go.Proofs.YtjkbaallfkjmhaaGreat
