
/- UpdL: PushP, UpdL, LineP, VoteP. -/
import Derived.Test.YtjdgpgfiomnjkaaGreatDoorQ17
import Derived.Test.YtjdgpgfiomnjkaaGreatDoorQ6
import Derived.Test.YtjdgpgfiomnjkaaGreatDoorQ12
import Derived.Test.YtjdgpgfiomnjkaaGreatDoorQ10
import Derived.Lib.ItoaNum
import Derived.Lib.Join
import Derived.Test.YtjdgpgfiomnjkaaGreatDoorQ15
import Derived.Test.YtjdgpgfiomnjkaaGreatDoorQ18
import Derived.Shelf.SlSortCmp.WholeK
import Derived.Shelf.SlGeneric
import Derived.Ground.SlsfProg
import Derived.Test.YtjdgpgfiomnjkaaGreatDoorProg
namespace Go.Proofs.YtjdgpgfiomnjkaaGreatDoor
open Go.RowKit
set_option linter.unusedVariables false
set_option linter.unusedSimpArgs false
set_option linter.unusedSectionVars false
variable [Ghost]
theorem idOf_set {l : List Rf} (h : Asc l) (s : ByteArray) (id : Int) : idOf (setRf l s id) s = id := by
 rcases idOf_cases (set_asc h s id) s with ⟨e, hn⟩ | ⟨x, hx, hs, e⟩
 ·by_cases h0 : id = 0
  ·rw [e, h0]
  ·exact absurd rfl (hn ⟨s, id⟩ (mem_set.2 (.inr ⟨h0, rfl⟩)))
 ·rcases mem_set.1 hx with ⟨_, hne⟩ | ⟨_, rfl⟩
  ·exact absurd hs hne
  ·exact e
theorem idOf_set_ne {l : List Rf} (h : Asc l) {s t : ByteArray} (id : Int) (hne : t ≠ s) : idOf (setRf l s id) t = idOf l t := by
 rcases idOf_cases h t with ⟨e, hn⟩ | ⟨x, hx, hs, e⟩
 ·rw [e, idOf_none]
  intro x hx
  rcases mem_set.1 hx with ⟨hx, _⟩ | ⟨_, rfl⟩
  ·exact hn x hx
  ·exact fun e => hne e.symm
 ·rw [e]
  have := idOf_mem (set_asc h s id) (x := x) (mem_set.2 (.inl ⟨hx, by rw [hs]; exact hne⟩))
  rwa [hs] at this
theorem set_same {l : List Rf} (h : Asc l) {s : ByteArray} {id : Int} (h0 : id ≠ 0) (e : idOf l s = id) : setRf l s id = l := by
 refine asc_ext (set_asc h s id) h fun x => ?_
 rw [mem_set]
 rcases idOf_cases h s with ⟨e0, _⟩ | ⟨y, hy, hs, e1⟩
 ·exact absurd (e.symm.trans e0) h0
 ·have hyy : y = ⟨s, id⟩ := by
   cases y
   simp only at hs e1
   rw [hs, ← e1, e]
  constructor
  ·rintro (⟨hx, _⟩ | ⟨_, rfl⟩)
   ·exact hx
   ·rw [← hyy]; exact hy
  ·intro hx
   by_cases hn : x.name = s
   ·exact .inr ⟨h0, by rw [← hyy]; exact asc_once h hx hy (by rw [hn, hs])⟩
   ·exact .inl ⟨hx, hn⟩
theorem mv_ne {us : List Mv} (h : MvsOk us) {i j : Nat} (hij : i < j) (hj : j < us.length) : (mv us i).name ≠ (mv us j).name := by
 have := List.pairwise_iff_getElem.1 h.once i j (by omega) hj hij
 rwa [← mv_lt, ← mv_lt] at this
theorem moved_id {l : List Rf} (h : Asc l) {us : List Mv} (hu : MvsOk us) {j : Nat} : ∀ i, j < i → i ≤ us.length → idOf (movedL l us i) (mv us j).name = (mv us j).new
 | 0, h1, _ => absurd h1 (by omega)
 | i + 1, h1, h2 => by
  show idOf (setRf (movedL l us i) (mv us i).name (mv us i).new) _ = _
  by_cases e : j = i
  ·subst e; exact idOf_set (movedL_asc h us _) _ _
  ·rw [idOf_set_ne (movedL_asc h us _) _ (mv_ne hu (by omega) (by omega))]
   exact moved_id h hu i (by omega) (by omega)
theorem unmoved_id {l : List Rf} (h : Asc l) {us : List Mv} (hu : MvsOk us) {j : Nat} (hj : j < us.length) : ∀ i, i ≤ j → idOf (movedL l us i) (mv us j).name = idOf l (mv us j).name
 | 0, _ => rfl
 | i + 1, h1 => by
  show idOf (setRf (movedL l us i) (mv us i).name (mv us i).new) _ = _
  rw [idOf_set_ne (movedL_asc h us _) _ (fun e => mv_ne hu (i := i) (j := j) (by omega) hj e.symm)]
  exact unmoved_id h hu hj i (by omega)
structure TryOk (r : Rep) (p : Psh) (L : List Obj) (M : List Rf) : Prop where
 add : addE r.store p.objects = 0
 whole : L = addL r.store p.objects
 moved : M = movedL r.refs p.updates p.updates.length
 mvs : MvsOk p.updates
 refs : checkRefs r.refs L = 0
 each : scan (movedErr r.refs L p.updates p.force) p.updates.length = 0
 right : rightErr M L = 0
theorem try_ok {r : Rep} {p : Psh} (h : tryE r p = 0) : TryOk r p (tryL r p) (tryM r p) := by
 have h' := h
 unfold tryE at h'
 by_cases ha : addE r.store p.objects = 0
 ·rw [if_neg (by simp [ha])] at h'
  have h2 := h'
  unfold applyE at h2
  by_cases hc : checkRefs r.refs (addL r.store p.objects) = 0
  ·rw [if_neg (by simp [hc])] at h2
   by_cases hm : checkMvs p.updates = 0
   ·rw [if_neg (by simp [hm])] at h2
    have hL : tryL r p = addL r.store p.objects := by unfold tryL; rw [if_pos h]
    have hM : tryM r p = movedL r.refs p.updates p.updates.length := by unfold tryM applyR; rw [if_pos h, if_pos h']
    rw [hL, hM]
    unfold movedE at h2
    by_cases hs : scan (movedErr r.refs (addL r.store p.objects) p.updates p.force) p.updates.length = 0
    ·rw [if_pos hs] at h2
     exact ⟨ha, rfl, rfl, mvs_ok.1 hm, hc, hs, h2⟩
    ·rw [if_neg hs] at h2; exact absurd h2 hs
   ·rw [if_pos hm] at h2; exact absurd h2 hm
  ·rw [if_pos hc] at h2; exact absurd h2 hc
 ·rw [if_pos ha] at h'; exact absurd h' ha
theorem TryOk.store {r : Rep} {p : Psh} {L : List Obj} {M : List Rf} (h : TryOk r p L M) : checkStore L = 0 := (checkRefs_zero.1 h.refs).1
def movesU (us : List Mv) : Bool := us.any fun u => u.old != u.new
end Go.Proofs.YtjdgpgfiomnjkaaGreatDoor
namespace Go.Proofs.YtjdgpgfiomnjkaaGreatDoor
open Go.RowKit
set_option linter.unusedVariables false
set_option linter.unusedSimpArgs false
set_option linter.unusedSectionVars false
variable [Ghost]
structure Applied (l : List Rf) (objs : List Obj) (us : List Mv) (force : Bool) (M : List Rf) : Prop where
 refs : checkRefs l objs = 0
 mvs : MvsOk us
 each : ∀ u ∈ us, idOf l u.name = u.old ∧ (u.new ≠ 0 → kindOf objs u.new = 3 ∧ (u.old ≠ 0 → force = false → behindB objs u.old u.new = true))
 mem : ∀ x, x ∈ M ↔ (∃ u ∈ us, u.new ≠ 0 ∧ x = ⟨u.name, u.new⟩) ∨ (x ∈ l ∧ ∀ u ∈ us, u.name ≠ x.name)
 asc : Asc M
 right : rightErr M objs = 0
theorem mem_moved {l : List Rf} {us : List Mv} (hu : MvsOk us) (x : Rf) : ∀ k, k ≤ us.length → (x ∈ movedL l us k ↔ (∃ i, i < k ∧ (mv us i).new ≠ 0 ∧ x = ⟨(mv us i).name, (mv us i).new⟩) ∨ (x ∈ l ∧ ∀ i, i < k → (mv us i).name ≠ x.name))
 | 0, _ => by simp [movedL]
 | k + 1, hk => by
  show x ∈ setRf (movedL l us k) (mv us k).name (mv us k).new ↔ _
  rw [mem_set, mem_moved hu x k (by omega)]
  constructor
  ·rintro (⟨⟨i, hi, h0, rfl⟩ | ⟨hx, hn⟩, hne⟩ | ⟨h0, rfl⟩)
   ·exact .inl ⟨i, by omega, h0, rfl⟩
   ·refine .inr ⟨hx, fun i hi => ?_⟩
    by_cases e : i = k
    ·subst e; exact fun e => hne e.symm
    ·exact hn i (by omega)
   ·exact .inl ⟨k, by omega, h0, rfl⟩
  ·rintro (⟨i, hi, h0, rfl⟩ | ⟨hx, hn⟩)
   ·by_cases e : i = k
    ·subst e; exact .inr ⟨h0, rfl⟩
    ·exact .inl ⟨.inl ⟨i, by omega, h0, rfl⟩, mv_ne hu (by omega) (by omega)⟩
   ·exact .inl ⟨.inr ⟨hx, fun i hi => hn i (by omega)⟩, fun e => hn k (by omega) e.symm⟩
theorem mem_movedAll {l : List Rf} {us : List Mv} (hu : MvsOk us) (x : Rf) : x ∈ movedL l us us.length ↔ (∃ u ∈ us, u.new ≠ 0 ∧ x = ⟨u.name, u.new⟩) ∨ (x ∈ l ∧ ∀ u ∈ us, u.name ≠ x.name) := by
 rw [mem_moved hu x _ (Nat.le_refl _)]
 constructor
 ·rintro (⟨i, hi, h0, e⟩ | ⟨hx, hn⟩)
  ·exact .inl ⟨_, mv_mem hi, h0, e⟩
  ·refine .inr ⟨hx, fun u hu => ?_⟩
   obtain ⟨i, hi, rfl⟩ := mem_mv hu
   exact hn i hi
 ·rintro (⟨u, hu, h0, e⟩ | ⟨hx, hn⟩)
  ·obtain ⟨i, hi, rfl⟩ := mem_mv hu
   exact .inl ⟨i, hi, h0, e⟩
  ·exact .inr ⟨hx, fun i hi => hn _ (mv_mem hi)⟩
theorem Applied.list {l : List Rf} {objs : List Obj} {us : List Mv} {force : Bool} {M : List Rf} (h : Applied l objs us force M) : movedL l us us.length = M :=
 asc_ext (movedL_asc (checkRefs_zero.1 h.refs).2.asc us _) h.asc fun x => by rw [mem_movedAll h.mvs, h.mem]
theorem Applied.of {l : List Rf} {objs : List Obj} {us : List Mv} {force : Bool} {M : List Rf} (h : Applied l objs us force M) : applyE l objs us force = 0 ∧ applyR l objs us force = M := by
 have hasc : Asc l := (checkRefs_zero.1 h.refs).2.asc
 have hz : scan (movedErr l objs us force) us.length = 0 := scan_of_zero fun i hi => moveErr_zero.2 (by
  rw [unmoved_id hasc h.mvs hi i (Nat.le_refl _)]
  exact h.each _ (mv_mem hi))
 have h0 : applyE l objs us force = 0 := by
  unfold applyE movedE
  rw [if_neg (by simpa using h.refs), if_neg (by simpa using mvs_ok.2 h.mvs), if_pos hz, h.list]
  exact h.right
 exact ⟨h0, by unfold applyR; rw [if_pos h0]; exact h.list⟩
theorem MvsOk.perm {us vs : List Mv} (h : MvsOk us) (hp : vs.Perm us) : MvsOk vs where
 some := by rw [hp.length_eq]; exact h.some
 many := by rw [hp.length_eq]; exact h.many
 name := fun u hu => h.name u (hp.mem_iff.1 hu)
 old := fun u hu => h.old u (hp.mem_iff.1 hu)
 new := fun u hu => h.new u (hp.mem_iff.1 hu)
 moves := fun u hu => h.moves u (hp.mem_iff.1 hu)
 once := (hp.pairwise_iff (fun {a b} hab e => hab e.symm)).2 h.once
theorem Applied.perm {l : List Rf} {objs : List Obj} {us vs : List Mv} {force : Bool} {M : List Rf} (h : Applied l objs us force M) (hp : vs.Perm us) : Applied l objs vs force M where
 refs := h.refs
 mvs := h.mvs.perm hp
 each := fun u hu => h.each u (hp.mem_iff.1 hu)
 mem := fun x => by
  rw [h.mem]
  simp only [hp.mem_iff]
 asc := h.asc
 right := h.right
theorem kind_no0 {objs : List Obj} (h : checkStore objs = 0) : ¬ kindOf objs 0 = 3 := fun hk => by
 obtain ⟨j, hj, he, _⟩ := kind_place (l := objs) (id := 0) (by rw [hk]; decide)
 have h3 := (right_of h).each j hj
 unfold checkObj at h3
 have hw : within (obj objs j).id 1 99 = false := by rw [he]; decide
 simp [hw] at h3
def backMv (u : Mv) : Mv := ⟨u.name, u.new, u.old⟩
theorem Applied.asc0 {l : List Rf} {objs : List Obj} {us : List Mv} {force : Bool} {M : List Rf} (h : Applied l objs us force M) : Asc l := (checkRefs_zero.1 h.refs).2.asc
theorem Applied.told {l : List Rf} {objs : List Obj} {us : List Mv} {force : Bool} {M : List Rf} (h : Applied l objs us force M) {u : Mv} (hu : u ∈ us) : idOf M u.name = u.new := by
 obtain ⟨i, hi, rfl⟩ := mem_mv hu
 rw [← h.list]; exact moved_id h.asc0 h.mvs _ hi (Nat.le_refl _)
theorem Applied.stays {l : List Rf} {objs : List Obj} {us : List Mv} {force : Bool} {M : List Rf} (h : Applied l objs us force M) {s : ByteArray} (hs : ∀ u ∈ us, u.name ≠ s) : idOf M s = idOf l s := by
 rcases idOf_cases h.asc0 s with ⟨e, hn⟩ | ⟨x, hx, hxs, e⟩
 ·rw [e]
  refine idOf_none fun x hx e2 => ?_
  rcases (h.mem x).1 hx with ⟨u, hu, _, rfl⟩ | ⟨hx2, _⟩
  ·exact hs u hu e2
  ·exact hn x hx2 e2
 ·rw [e]
  have := idOf_mem h.asc (x := x) ((h.mem x).2 (.inr ⟨hx, fun u hu => by rw [hxs]; exact hs u hu⟩))
  rwa [hxs] at this
theorem Applied.back {l : List Rf} {objs : List Obj} {us : List Mv} {force : Bool} {M : List Rf} (h : Applied l objs us force M) : Applied M objs (us.map backMv) true l := by
 have hok := (checkRefs_zero.1 h.refs)
 have hu := h.mvs
 refine ⟨checkRefs_zero.2 ⟨hok.1, rightErr_zero h.right⟩, ⟨?_, ?_, ?_, ?_, ?_, ?_, ?_⟩, ?_, ?_, h.asc0, rightErr_of hok.2⟩
 ·rw [List.length_map]; exact hu.some
 ·rw [List.length_map]; exact hu.many
 ·intro u hm; obtain ⟨v, hv, rfl⟩ := List.mem_map.1 hm; exact hu.name v hv
 ·intro u hm; obtain ⟨v, hv, rfl⟩ := List.mem_map.1 hm; exact hu.new v hv
 ·intro u hm; obtain ⟨v, hv, rfl⟩ := List.mem_map.1 hm; exact hu.old v hv
 ·intro u hm; obtain ⟨v, hv, rfl⟩ := List.mem_map.1 hm; exact fun e => hu.moves v hv ⟨e.2, e.1⟩
 ·rw [List.pairwise_map]; exact hu.once
 ·intro u hm
  obtain ⟨v, hv, rfl⟩ := List.mem_map.1 hm
  refine ⟨h.told hv, fun h0 => ⟨?_, fun _ e => by cases e⟩⟩
  rcases idOf_cases h.asc0 v.name with ⟨e, _⟩ | ⟨x, hx, hxs, e⟩
  ·exact absurd ((h.each v hv).1.symm.trans e) h0
  ·have e2 : v.old = x.id := (h.each v hv).1.symm.trans e
   show kindOf objs v.old = 3
   rw [e2]
   obtain ⟨i, hi, rfl⟩ := mem_rf hx
   exact hok.2.commit i hi
 ·intro x
  constructor
  ·intro hx
   by_cases ht : ∃ u ∈ us, u.name = x.name
   ·obtain ⟨u, hu2, e⟩ := ht
    refine .inl ⟨backMv u, List.mem_map.2 ⟨u, hu2, rfl⟩, ?_⟩
    have e2 : idOf l u.name = x.id := by rw [e]; exact idOf_mem h.asc0 hx
    have e3 : u.old = x.id := (h.each u hu2).1.symm.trans e2
    obtain ⟨i, hi, rfl⟩ := mem_rf hx
    have hk := hok.2.commit i hi
    refine ⟨fun h0 => ?_, ?_⟩
    ·have h0' : (rf l i).id = 0 := by rw [← e3]; exact h0
     rw [h0'] at hk
     exact absurd hk (kind_no0 hok.1)
    ·show rf l i = ⟨u.name, u.old⟩
     rw [e, e3]
   ·refine .inr ⟨(h.mem x).2 (.inr ⟨hx, fun u hu e => ht ⟨u, hu, e⟩⟩), fun u hm e => ?_⟩
    obtain ⟨v, hv, rfl⟩ := List.mem_map.1 hm
    exact ht ⟨v, hv, e⟩
  ·rintro (⟨u, hm, h0, rfl⟩ | ⟨hx, hn⟩)
   ·obtain ⟨v, hv, rfl⟩ := List.mem_map.1 hm
    rcases idOf_cases h.asc0 v.name with ⟨e, _⟩ | ⟨y, hy, hys, e⟩
    ·exact absurd ((h.each v hv).1.symm.trans e) h0
    ·have e2 : v.old = y.id := (h.each v hv).1.symm.trans e
     show (⟨v.name, v.old⟩ : Rf) ∈ l
     rw [e2, ← hys]; exact hy
   ·rcases (h.mem x).1 hx with ⟨u, hu2, _, rfl⟩ | ⟨hx2, _⟩
    ·exact absurd rfl (hn (backMv u) (List.mem_map.2 ⟨u, hu2, rfl⟩))
    ·exact hx2
theorem Applied.twice {l : List Rf} {objs : List Obj} {us : List Mv} {force : Bool} {M : List Rf} (h : Applied l objs us force M) (hm : movesU us = true) : applyE M objs us force = 4 := by
 have hM : RefsOk M objs := rightErr_zero h.right
 have hz : ∀ j, j < us.length → _ := fun j hj => h.each _ (mv_mem (l := us) (i := j) hj)
 have hid : ∀ j, j < us.length → idOf M (mv us j).name = (mv us j).new := fun j hj => h.told (mv_mem hj)
 have hex : ∃ k, k < us.length ∧ (mv us k).old ≠ (mv us k).new ∧ ∀ j, j < k → (mv us j).old = (mv us j).new := by
  unfold movesU at hm
  obtain ⟨u, hu, hne⟩ := List.any_eq_true.1 hm
  obtain ⟨i, hi, rfl⟩ := mem_mv hu
  have hi2 : (mv us i).old ≠ (mv us i).new := by simpa using hne
  clear hm hu hne
  induction i using Nat.strongRecOn with
  | ind i ih =>
   by_cases hall : ∀ j, j < i → (mv us j).old = (mv us j).new
   ·exact ⟨i, hi, hi2, hall⟩
   ·have ⟨j, hj⟩ := Classical.not_forall.1 hall
    have ⟨hj1, hj2⟩ := Classical.not_imp.1 hj
    exact ih j hj1 (by omega) hj2
 obtain ⟨k, hk, hne, hall⟩ := hex
 have hstay : ∀ j, j ≤ k → movedL M us j = M := by
  intro j hj
  induction j with
  | zero => rfl
  | succ j ih =>
   show setRf (movedL M us j) _ _ = M
   rw [ih (by omega)]
   have e := hall j (by omega)
   have hmv := h.mvs.moves _ (mv_mem (l := us) (i := j) (by omega))
   exact set_same hM.asc (fun e0 => hmv ⟨by rw [e, e0], e0⟩) (hid j (by omega))
 have hbefore : scan (movedErr M objs us force) k = 0 := scan_of_zero fun j hj => by
  unfold movedErr
  rw [hstay j (by omega)]
  exact moveErr_zero.2 ⟨by rw [hid j (by omega), hall j hj], (hz j (by omega)).2⟩
 have hat : movedErr M objs us force k = 4 := by
  unfold movedErr moveErr
  rw [hstay k (Nat.le_refl _), if_pos (by rw [hid k hk]; exact fun e => hne e.symm)]
 have hscan : scan (movedErr M objs us force) us.length = 4 := by
  rw [scan_hit hbefore (by rw [hat]; decide) hk, hat]
 unfold applyE movedE
 rw [if_neg (by rw [checkRefs_zero.2 ⟨(checkRefs_zero.1 h.refs).1, hM⟩]; simp), if_neg (by simp [mvs_ok.2 h.mvs]), hscan]
 rfl
end Go.Proofs.YtjdgpgfiomnjkaaGreatDoor
namespace Go.Proofs.YtjdgpgfiomnjkaaGreatDoor
open Go.RowKit
set_option linter.unusedVariables false
set_option linter.unusedSimpArgs false
set_option linter.unusedSectionVars false
variable [Ghost]
theorem ba_ext {a b : ByteArray} (h : a.data.toList = b.data.toList) : a = b := by
 cases a; cases b; congr; exact Array.toList_inj.1 h
def decB (n : Int) : ByteArray := ⟨(Lib.decDigits n.toNat).toArray⟩
def spB : ByteArray := ⟨#[32]⟩
def semiB : ByteArray := ⟨#[59]⟩
def lineOne (u : Mv) : ByteArray := ⟨(Lib.join [u.name.data.toList, (decB u.old).data.toList, (decB u.new).data.toList] [32]).toArray⟩ ++ semiB
def textOne (u : Mv) : ByteArray := ((((u.name ++ spB) ++ decB u.old) ++ spB) ++ decB u.new) ++ semiB
theorem one_same (u : Mv) : lineOne u = textOne u := by
 apply ba_ext
 unfold lineOne textOne spB semiB
 simp [Lib.join_cons, Lib.joinTail]
def lineL : List Mv → ByteArray → ByteArray
 | [], s => s
 | u :: l, s => lineL l (s ++ lineOne u)
theorem lineL_snoc (l : List Mv) (u : Mv) : ∀ s, lineL (l ++ [u]) s = lineL l s ++ lineOne u := by
 induction l with
 | nil => intro s; rfl
 | cons v l ih => intro s; exact ih _
def atTo (l : List Mv) (s : ByteArray) : Nat → Int
 | 0 => -1
 | k + 1 => if strLt s (mv l k).name = true ∧ (atTo l s k < 0 ∨ strLt (mv l k).name (mv l (atTo l s k).toNat).name = true) then (k : Int) else atTo l s k
theorem atTo_spec (l : List Mv) (s : ByteArray) : ∀ k, (atTo l s k = -1 ∧ ∀ i, i < k → strLt s (mv l i).name = false) ∨
  ∃ a : Nat, a < k ∧ atTo l s k = (a : Int) ∧ strLt s (mv l a).name = true ∧ ∀ i, i < k → strLt s (mv l i).name = true → strLt (mv l i).name (mv l a).name = false
 | 0 => .inl ⟨rfl, fun i hi => absurd hi (by omega)⟩
 | k + 1 => by
  unfold atTo
  rcases atTo_spec l s k with ⟨e, h⟩ | ⟨a, ha, e, h1, h2⟩
  ·cases hs : strLt s (mv l k).name
   ·rw [if_neg (by simp)]
    refine .inl ⟨e, fun i hi => ?_⟩
    by_cases hk : i = k
    ·subst hk; exact hs
    ·exact h i (by omega)
   ·rw [if_pos ⟨rfl, .inl (by omega)⟩]
    refine .inr ⟨k, by omega, rfl, hs, fun i hi h3 => ?_⟩
    by_cases hk : i = k
    ·subst hk; exact strLt_irrefl _
    ·rw [h i (by omega)] at h3; cases h3
  ·rw [e]
   simp only [Int.toNat_natCast]
   cases hs : strLt s (mv l k).name
   ·rw [if_neg (by simp)]
    refine .inr ⟨a, by omega, rfl, h1, fun i hi h3 => ?_⟩
    by_cases hk : i = k
    ·subst hk; rw [hs] at h3; cases h3
    ·exact h2 i (by omega) h3
   ·by_cases hl : strLt (mv l k).name (mv l a).name = true
    case neg =>
     rw [if_neg (fun h => h.2.elim (fun h => by omega) hl)]
     refine .inr ⟨a, by omega, rfl, h1, fun i hi h3 => ?_⟩
     by_cases hk : i = k
     ·subst hk; simpa using hl
     ·exact h2 i (by omega) h3
    case pos =>
     rw [if_pos ⟨rfl, .inr hl⟩]
     refine .inr ⟨k, by omega, rfl, hs, fun i hi h3 => ?_⟩
     by_cases hk : i = k
     ·subst hk; exact strLt_irrefl _
     ·cases h4 : strLt (mv l i).name (mv l k).name
      ·rfl
      ·have := strLt_trans h4 hl
       rw [h2 i (by omega) h3] at this; cases this
def pickAt (l : List Mv) (s : ByteArray) : Nat := (atTo l s l.length).toNat
def textTo (l : List Mv) : Nat → ByteArray × ByteArray
 | 0 => (ByteArray.empty, ByteArray.empty)
 | n + 1 => ((textTo l n).1 ++ textOne (mv l (pickAt l (textTo l n).2)), (mv l (pickAt l (textTo l n).2)).name)
def textL (l : List Mv) : ByteArray := (textTo l l.length).1
def RisesM (d : List Mv) : Prop := d.Pairwise fun a b => strLt a.name b.name = true
theorem empty_less {s : ByteArray} (h : s ≠ ByteArray.empty) : strLt ByteArray.empty s = true := by
 unfold strLt
 rw [ByteArray.toList_eq, ByteArray.toList_eq]
 cases hs : s.data.toList with
 | nil => exact absurd (ba_ext hs) h
 | cons a r => rfl
theorem text_sorted {l d : List Mv} (hp : d.Perm l) (hd : RisesM d) (hn : ∀ u ∈ l, u.name ≠ ByteArray.empty) : ∀ n, n ≤ l.length → textTo l n = (lineL (d.take n) ByteArray.empty, if n = 0 then ByteArray.empty else (mv d (n - 1)).name)
 | 0, _ => rfl
 | n + 1, h => by
  have ih := text_sorted hp hd hn n (by omega)
  have hl := hp.length_eq
  have hnd : n < d.length := by omega
  have hR := List.pairwise_iff_getElem.1 hd
  have hlt : ∀ i j, i < j → j < d.length → strLt (mv d i).name (mv d j).name = true := fun i j hij hj => by
   have := hR i j (by omega) hj hij
   rwa [← mv_lt, ← mv_lt] at this
  have hs : ∀ j, n ≤ j → j < d.length → strLt (textTo l n).2 (mv d j).name = true := fun j hj hjd => by
   rw [ih]
   by_cases h0 : n = 0
   ·simp only [if_pos h0]; exact empty_less (hn _ (hp.mem_iff.1 (mv_mem hjd)))
   ·simp only [if_neg h0]; exact hlt _ _ (by omega) hjd
  have hs' : ∀ j, j < n → strLt (textTo l n).2 (mv d j).name = false := fun j hj => by
   rw [ih]
   simp only [if_neg (show ¬ n = 0 by omega)]
   by_cases e : j = n - 1
   ·rw [e]; exact strLt_irrefl _
   ·exact strLt_asymm (hlt j (n - 1) (by omega) (by omega))
  have hpick : mv l (pickAt l (textTo l n).2) = mv d n := by
   generalize (textTo l n).2 = s at hs hs'
   obtain ⟨i, hi, e⟩ := mem_mv (hp.mem_iff.1 (mv_mem hnd))
   rcases atTo_spec l s l.length with ⟨_, h2⟩ | ⟨a, ha, ea, h1, h2⟩
   ·have := h2 i hi; rw [e, hs n (Nat.le_refl _) hnd] at this; cases this
   ·unfold pickAt
    rw [ea, Int.toNat_natCast]
    obtain ⟨j, hj, ej⟩ := mem_mv (hp.mem_iff.2 (mv_mem ha))
    rw [← ej] at h1 h2 ⊢
    have h3 := h2 i hi (by rw [e]; exact hs n (Nat.le_refl _) hnd)
    rw [e] at h3
    rcases Nat.lt_or_ge j n with hjn | hjn
    ·rw [hs' j hjn] at h1; cases h1
    ·rcases Nat.lt_or_ge n j with hnj | hnj
     ·rw [hlt n j hnj hj] at h3; cases h3
     ·rw [show j = n by omega]
  show (_ ++ textOne (mv l (pickAt l (textTo l n).2)), (mv l (pickAt l (textTo l n).2)).name) = _
  rw [hpick, ih]
  simp only [if_neg (show ¬ n + 1 = 0 by omega), Nat.add_sub_cancel]
  rw [List.take_succ_eq_append_getElem hnd, lineL_snoc, one_same, mv_lt hnd]
theorem text_line {l d : List Mv} (hp : d.Perm l) (hd : RisesM d) (hn : ∀ u ∈ l, u.name ≠ ByteArray.empty) : textL l = lineL d ByteArray.empty := by
 unfold textL
 rw [text_sorted hp hd hn _ (Nat.le_refl _), ← hp.length_eq, List.take_length]
theorem rises_of {d : List Mv} (h : d.Pairwise fun a b => strLt b.name a.name = false) (hn : d.Pairwise fun a b => a.name ≠ b.name) : RisesM d := by
 unfold RisesM
 refine (h.and hn).imp fun {a b} hab => ?_
 cases e : strLt a.name b.name
 ·exact absurd (strLt_tri e hab.1) hab.2
 ·rfl
theorem name_nonempty {s : ByteArray} (h : nameErr s = 0) : s ≠ ByteArray.empty := by
 rintro rfl
 exact absurd h (by decide +kernel)
theorem text_more {l d : List Mv} (hp : d.Perm l) (hd : RisesM d) (hn : ∀ u ∈ l, u.name ≠ ByteArray.empty) {n : Nat} (h : n < l.length) : ∃ i, i < l.length ∧ strLt (textTo l n).2 (mv l i).name = true := by
 have hnd : n < d.length := by have := hp.length_eq; omega
 obtain ⟨i, hi, e⟩ := mem_mv (hp.mem_iff.1 (mv_mem hnd))
 refine ⟨i, hi, ?_⟩
 rw [e, text_sorted hp hd hn n (by omega)]
 by_cases h0 : n = 0
 ·simp only [if_pos h0]; exact empty_less (hn _ (hp.mem_iff.1 (mv_mem hnd)))
 ·simp only [if_neg h0]
  have := List.pairwise_iff_getElem.1 hd (n - 1) n (by omega) hnd (by omega)
  rwa [← mv_lt, ← mv_lt] at this
theorem mvs_sorted {l : List Mv} (h : MvsOk l) : ∃ d : List Mv, d.Perm l ∧ RisesM d := by
 have hd1 : (l.mergeSort fun a b => !strLt b.name a.name).Perm l := List.mergeSort_perm _ _
 have hd2 : (l.mergeSort fun a b => !strLt b.name a.name).Pairwise fun a b => strLt b.name a.name = false := by
  have := List.pairwise_mergeSort (le := fun a b : Mv => !strLt b.name a.name) (fun a b c h1 h2 => by
   simp only [Bool.not_eq_true'] at h1 h2 ⊢
   exact strLt_ntrans h2 h1) (fun a b => by
   cases e : strLt b.name a.name
   ·simp
   ·simp [strLt_asymm e]) l
  exact this.imp fun {a b} hab => by simpa using hab
 exact ⟨_, hd1, rises_of hd2 ((h.perm hd1).once)⟩
theorem pick_there {l : List Mv} (h : MvsOk l) {n : Nat} (hn : n < l.length) : ∃ a : Nat, a < l.length ∧ atTo l (textTo l n).2 l.length = (a : Int) ∧ textTo l (n + 1) = ((textTo l n).1 ++ textOne (mv l a), (mv l a).name) := by
 obtain ⟨d, hp, hd⟩ := mvs_sorted h
 obtain ⟨i, hi, hs⟩ := text_more hp hd (fun u hu => name_nonempty (h.name u hu)) hn
 rcases atTo_spec l (textTo l n).2 l.length with ⟨_, h2⟩ | ⟨a, ha, ea, _, _⟩
 ·rw [h2 i hi] at hs; cases hs
 ·refine ⟨a, ha, ea, ?_⟩
  have e : pickAt l (textTo l n).2 = a := by unfold pickAt; rw [ea, Int.toNat_natCast]
  show (_ ++ textOne (mv l (pickAt l (textTo l n).2)), (mv l (pickAt l (textTo l n).2)).name) = _
  rw [e]
end Go.Proofs.YtjdgpgfiomnjkaaGreatDoor
namespace Go.Proofs.YtjdgpgfiomnjkaaGreatDoor
open Go.RowKit
set_option linter.unusedVariables false
set_option linter.unusedSimpArgs false
set_option linter.unusedSectionVars false
variable [Ghost]
def yesB (s : ByteArray) : Bool := [121, 101, 115].isPrefixOf s.data.toList
def castB : List (ByteArray × Int) → ByteArray → List (ByteArray × Int)
 | [], _ => []
 | (v, n) :: r, s => if v = s ∨ n = 0 then (s, n + 1) :: r else (v, n) :: castB r s
def box0 : List (ByteArray × Int) := [(ByteArray.empty, 0), (ByteArray.empty, 0), (ByteArray.empty, 0)]
def stepB' (b : List (ByteArray × Int)) (s : ByteArray) : List (ByteArray × Int) := if s = ByteArray.empty then b else castB b s
def boxOf (l : List ByteArray) : List (ByteArray × Int) := l.foldl stepB' box0
def wins (x : ByteArray × Int) : Bool := decide (3 < 2 * x.2) && yesB x.1
def told (o : Option ByteArray) : ByteArray × Bool := match o with | some s => (s, true) | none => (ByteArray.empty, false)
def tallyS (l : List ByteArray) : ByteArray × Bool := if l.length ≠ 3 then (ByteArray.empty, false) else told (((boxOf l).find? wins).map (·.1))
theorem three {α : Type} {l : List α} (h : l.length = 3) : ∃ a b c, l = [a, b, c] := by
 match l, h with
 | [a, b, c], _ => exact ⟨a, b, c, rfl⟩
end Go.Proofs.YtjdgpgfiomnjkaaGreatDoor
namespace Go.Proofs.YtjdgpgfiomnjkaaGreatDoor
open Go.RowKit
set_option linter.unusedVariables false
set_option linter.unusedSimpArgs false
set_option linter.unusedSectionVars false
variable [Ghost]
def Digit (e : Int) : Prop := 0 ≤ e ∧ e ≤ 9
theorem dig_ite {c : Prop} [Decidable c] {a b : Int} (ha : Digit a) (hb : Digit b) : Digit (if c then a else b) := by
 by_cases h : c
 ·rw [if_pos h]; exact ha
 ·rw [if_neg h]; exact hb
theorem dig_scan {f : Nat → Int} (h : ∀ k, Digit (f k)) : ∀ n, Digit (scan f n)
 | 0 => ⟨(by decide : (0 : Int) ≤ 0), (by decide : (0 : Int) ≤ 9)⟩
 | n + 1 => by unfold scan; exact dig_ite (h n) (dig_scan h n)
theorem dig_link (o : Obj) (i : Nat) : Digit (linkBad o i) := by unfold linkBad; repeat' (first | exact ⟨by decide, by decide⟩ | refine dig_ite ?_ ?_)
theorem dig_links (o : Obj) : Digit (linksErr o) := by
 have := dig_scan (dig_link o) o.links.length
 unfold linksErr; repeat' (first | exact this | exact ⟨by decide, by decide⟩ | refine dig_ite ?_ ?_)
theorem dig_obj (o : Obj) : Digit (checkObj o) := by
 have := dig_links o
 unfold checkObj; repeat' (first | exact this | exact ⟨by decide, by decide⟩ | refine dig_ite ?_ ?_)
theorem dig_linkErr (o : Obj) (k : Nat) (kind : Int) : Digit (linkErr o k kind) := by unfold linkErr; repeat' (first | exact ⟨by decide, by decide⟩ | refine dig_ite ?_ ?_)
theorem dig_objErr (l : List Obj) (i : Nat) : Digit (objErr l i) := by
 have h1 := dig_obj (obj l i)
 have h2 := dig_scan (fun k => dig_linkErr (obj l i) k (kindOf (l.take i) (nth (obj l i).links k))) (obj l i).links.length
 unfold objErr; repeat' (first | exact h1 | exact h2 | exact ⟨by decide, by decide⟩ | refine dig_ite ?_ ?_)
theorem dig_store (l : List Obj) : Digit (checkStore l) := by
 have := dig_scan (dig_objErr l) l.length
 unfold checkStore; repeat' (first | exact this | exact ⟨by decide, by decide⟩ | refine dig_ite ?_ ?_)
theorem dig_name (s : ByteArray) : Digit (nameErr s) := by unfold nameErr; repeat' (first | exact ⟨by decide, by decide⟩ | refine dig_ite ?_ ?_)
theorem dig_commit (l : List Obj) (id : Int) : Digit (commitErr l id) := by unfold commitErr; repeat' (first | exact ⟨by decide, by decide⟩ | refine dig_ite ?_ ?_)
theorem dig_ref (l : List Rf) (objs : List Obj) (i : Nat) : Digit (refErr l objs i) := by
 have h1 := dig_name (rf l i).name
 have h2 := dig_commit objs (rf l i).id
 unfold refErr; repeat' (first | exact h1 | exact h2 | exact ⟨by decide, by decide⟩ | refine dig_ite ?_ ?_)
theorem dig_pair (l : List Rf) (i k : Nat) : Digit (pairErr l i k) := by unfold pairErr; repeat' (first | exact ⟨by decide, by decide⟩ | refine dig_ite ?_ ?_)
theorem dig_right (l : List Rf) (objs : List Obj) : Digit (rightErr l objs) := by
 have h1 := dig_scan (dig_ref l objs) l.length
 have h2 := dig_scan (fun i => dig_scan (dig_pair l i) l.length) l.length
 unfold rightErr; repeat' (first | exact h1 | exact h2 | exact ⟨by decide, by decide⟩ | refine dig_ite ?_ ?_)
theorem dig_refs (l : List Rf) (objs : List Obj) : Digit (checkRefs l objs) := by
 unfold checkRefs; repeat' (first | exact dig_store objs | exact dig_right l objs | exact ⟨by decide, by decide⟩ | refine dig_ite ?_ ?_)
theorem dig_mv (l : List Mv) (i : Nat) : Digit (mvErr l i) := by
 have h1 := dig_name (mv l i).name
 unfold mvErr; repeat' (first | exact h1 | exact ⟨by decide, by decide⟩ | refine dig_ite ?_ ?_)
theorem dig_mvs (l : List Mv) : Digit (checkMvs l) := by
 have := dig_scan (dig_mv l) l.length
 unfold checkMvs; repeat' (first | exact this | exact ⟨by decide, by decide⟩ | refine dig_ite ?_ ?_)
theorem dig_move (l : List Rf) (objs : List Obj) (u : Mv) (f : Bool) : Digit (moveErr l objs u f) := by
 have := dig_commit objs u.new
 unfold moveErr; repeat' (first | exact this | exact ⟨by decide, by decide⟩ | refine dig_ite ?_ ?_)
theorem dig_moved (l : List Rf) (objs : List Obj) (us : List Mv) (f : Bool) : Digit (movedE l objs us f) := by
 unfold movedE; repeat' (first | exact dig_right _ _ | exact dig_scan (fun k => dig_move _ _ _ _) _ | exact ⟨by decide, by decide⟩ | refine dig_ite ?_ ?_)
theorem dig_apply (l : List Rf) (objs : List Obj) (us : List Mv) (f : Bool) : Digit (applyE l objs us f) := by
 unfold applyE; repeat' (first | exact dig_refs _ _ | exact dig_mvs _ | exact dig_moved _ _ _ _ | exact ⟨by decide, by decide⟩ | refine dig_ite ?_ ?_)
theorem dig_joinE (l : List Obj) (o : Obj) : Digit (joinE l o) := by unfold joinE; repeat' (first | exact ⟨by decide, by decide⟩ | refine dig_ite ?_ ?_)
theorem dig_with (l more : List Obj) : Digit (withE l more) := by
 have h1 := dig_scan (fun k => dig_joinE (joined l more k) (obj more k)) more.length
 have h2 := dig_store (joined l more more.length)
 unfold withE; repeat' (first | exact h1 | exact h2 | exact ⟨by decide, by decide⟩ | refine dig_ite ?_ ?_)
theorem dig_add (l more : List Obj) : Digit (addE l more) := by
 have h1 := dig_store l
 have h2 := dig_scan (fun k => dig_obj (obj more k)) more.length
 have h3 := dig_with l more
 unfold addE; repeat' (first | exact h1 | exact h2 | exact h3 | exact ⟨by decide, by decide⟩ | refine dig_ite ?_ ?_)
theorem dig_try (r : Rep) (p : Psh) : Digit (tryE r p) := by
 unfold tryE; repeat' (first | exact dig_add _ _ | exact dig_apply _ _ _ _ | exact ⟨by decide, by decide⟩ | refine dig_ite ?_ ?_)
def noB : ByteArray := ⟨#[110, 111, 32]⟩
def yesSp : ByteArray := ⟨#[121, 101, 115, 32]⟩
def voteR (r : Rep) (p : Psh) : ByteArray := if tryE r p ≠ 0 then noB ++ decB (tryE r p) else yesSp ++ decB r.gen ++ spB ++ textL p.updates
end Go.Proofs.YtjdgpgfiomnjkaaGreatDoor
namespace Go.Proofs.YtjdgpgfiomnjkaaGreatDoor
open Go.RowKit
set_option linter.unusedVariables false
set_option linter.unusedSimpArgs false
set_option linter.unusedSectionVars false
variable [Ghost]
theorem dec_small {n : Int} (h0 : 0 ≤ n) (h : n < 10) : decB n = ⟨#[UInt8.ofNat (48 + n.toNat)]⟩ := by
 unfold decB; rw [Lib.decDigits, dif_pos (by omega)]
theorem dec_big {n : Int} (h : 10 ≤ n) : decB n = decB (n / 10) ++ decB (n % 10) := by
 apply ba_ext
 unfold decB
 conv => lhs; rw [Lib.decDigits, dif_neg (by omega)]
 have e1 : (n / 10).toNat = n.toNat / 10 := by omega
 have e2 : (n % 10).toNat = n.toNat % 10 := by omega
 rw [e1, e2]
 conv => rhs; rw [show Lib.decDigits (n.toNat % 10) = [UInt8.ofNat (48 + n.toNat % 10)] by rw [Lib.decDigits, dif_pos (by omega)]]
 simp
theorem dec_size {n : Int} (h0 : 0 ≤ n) (h : n < 1000) : (decB n).size ≤ 12 := by
 have h1 : ∀ n : Int, 0 ≤ n → n < 10 → (decB n).size = 1 := fun n h0 h => by rw [dec_small h0 h]; rfl
 have h2 : ∀ n : Int, 0 ≤ n → n < 100 → (decB n).size ≤ 2 := fun n h0 h => by
  by_cases h3 : n < 10
  ·rw [h1 n h0 h3]; omega
  ·rw [dec_big (by omega), ByteArray.size_append, h1 (n / 10) (by omega) (by omega), h1 (n % 10) (by omega) (by omega)]; omega
 by_cases h3 : n < 100
 ·have := h2 n h0 h3; omega
 ·rw [dec_big (by omega), ByteArray.size_append, h1 (n % 10) (by omega) (by omega)]
  have := h2 (n / 10) (by omega) (by omega); omega
theorem name_size {s : ByteArray} (h : nameErr s = 0) : s.size ≤ 12 := by
 unfold nameErr at h
 split at h
 ·cases h
 ·omega
theorem textOne_size {u : Mv} (hn : u.name.size ≤ 12) (h1 : 0 ≤ u.old ∧ u.old ≤ 99) (h2 : 0 ≤ u.new ∧ u.new ≤ 99) : (textOne u).size ≤ 39 := by
 unfold textOne spB semiB
 have e1 := dec_size h1.1 (by omega : u.old < 1000)
 have e2 := dec_size h2.1 (by omega : u.new < 1000)
 simp only [ByteArray.size_append]
 show _ + 1 + _ + 1 + _ + 1 ≤ 39
 omega
theorem text_size {l : List Mv} (h : MvsOk l) : ∀ k, k ≤ l.length → (textTo l k).1.size ≤ 39 * k
 | 0, _ => by show ByteArray.size ByteArray.empty ≤ _; simp
 | k + 1, hk => by
  obtain ⟨a, ha, _, e⟩ := pick_there h (n := k) (by omega)
  have ih := text_size h k (by omega)
  have hm := mv_mem ha
  have := textOne_size (name_size (h.name _ hm)) (h.old _ hm) (h.new _ hm)
  rw [e]
  show (_ ++ _ : ByteArray).size ≤ _
  rw [ByteArray.size_append]; omega
end Go.Proofs.YtjdgpgfiomnjkaaGreatDoor
namespace Go.Proofs.YtjdgpgfiomnjkaaGreatDoor
open Go.RowKit
set_option linter.unusedVariables false
set_option linter.unusedSimpArgs false
set_option linter.unusedSectionVars false
variable [Ghost]
instance instInhabitedMv : Inhabited Mv := ⟨mv0⟩
theorem mv_arr {l : List Mv} {i : Nat} (h : i < l.length) : l.toArray[i]! = mv l i := by
 rw [getElem!_pos _ i (by simpa using h), mv_lt h]; simp
theorem own_holds {B g cap : Nat} {w : World} {l : List Mv} (h : OwnU B w (.slice (some ⟨g, 0, none⟩) l.length cap) l) : Go.Sort.HoldsK mvCells 3 w g 0 l.toArray := by
 intro j hj
 have hj' : j < l.length * 3 := by simpa using hj
 have hc := h.1.cellAt j (by simpa using hj')
 have hf := h.1.frozenAt (g := g) j
 refine ⟨?_, by simpa using hf⟩
 have e := flat_get (cs := fun i => mvCells (mv l i)) (sz := 3) (n := l.length) (fun _ _ => rfl) (j / 3) (by omega) (j % 3) ((mvCells (mv l (j / 3)))[j % 3]'(by show j % 3 < 3; omega)) (List.getElem?_eq_getElem _)
 rw [show j / 3 * 3 + j % 3 = j by omega] at e
 rw [Nat.zero_add, hc, e, Go.Sort.get_flatK _ _ _ _ (by simpa using hj'), mv_arr (by omega)]
 rw [getElem!_pos (mvCells (mv l (j / 3))) (j % 3) (by show j % 3 < 3; omega)]
 rfl
theorem sort_upd (w : World) (g m : Nat) (d : Array Mv) (os : Array Go.Obj) : Upd (fun b => b = g) w (Go.Proofs.sortWorldK mvCells 3 w g 0 m d os) := by
 refine ⟨rfl, rfl, rfl, by simp [Go.Proofs.sortWorldK, Go.Sort.putRowK, Go.Sort.ahead], fun b hb hn => ?_⟩
 show ((Go.Sort.putRowK mvCells 3 (Go.Sort.ahead w m) g 0 d).heap ++ os)[b]? = _
 rw [Array.getElem?_append_left (by simpa [Go.Sort.putRowK] using hb)]
 show (w.heap.modify g _)[b]? = _
 rw [Array.getElem?_modify, if_neg (fun e => hn e.symm)]
theorem own_sorted {B g cap m : Nat} {w : World} {l : List Mv} {d : Array Mv} {os : Array Go.Obj} (h : OwnU B w (.slice (some ⟨g, 0, none⟩) l.length cap) l) (hl : l.length * 32 ≤ 140737488351232) (hd : d.size = l.length) (hok : ∀ u ∈ d.toList, MvOk u) :
  MvsV (fun b => B ≤ b) (Go.Proofs.sortWorldK mvCells 3 w g 0 m d os) (.slice (some ⟨g, 0, none⟩) l.length cap) d.toList := by
 have hb := h.block (g := g) rfl
 have hH := Go.Proofs.holdsK_sortWorldK_c mvCells 3 w g 0 l.toArray d m os (own_holds h) hb.2 (by simpa using hd)
 have hlen : d.toList.length = l.length := by simpa using hd
 obtain ⟨⟨a, c, e, g1, g2, g3, _⟩, _⟩ := h.mvs hl
 cases e
 refine ⟨⟨_, _, by rw [hlen], by rw [hlen]; exact g1, g2, by rw [hlen]; exact g3, fun hn => ⟨g, 0, rfl, ⟨hb.1, .inr ⟨World.block_lt_of_cell? _ _ (hH.cell (i := 0) (c := 0) (by omega) (by omega)).1, fun k hk => by
  have h9 := (hH.cell (i := k / 3) (c := k % 3) (by rw [hlen] at hk; omega) (by omega)).2
  have e9 : 0 + k / 3 * 3 + k % 3 = 0 + k := by omega
  rw [e9] at h9; exact h9⟩⟩, fun i hi j u hu => ?_⟩⟩, hok⟩
 have hj : j < 3 := by
  rcases Nat.lt_or_ge j 3 with h | h
  ·exact h
  ·rw [List.getElem?_eq_none (by exact h)] at hu; cases hu
 rw [(hH.cell (i := i) (c := j) (by omega) hj).1]
 have e : d[i]! = mv d.toList i := by rw [getElem!_pos d i (by omega), mv_lt hi]; simp
 rw [e, getElem!_pos _ j (by exact hj)]
 rw [List.getElem?_eq_getElem (by exact hj)] at hu
 exact hu
theorem sort_lists {l : List Mv} {d : Array Mv} (hp : Go.Sort.PermIn 0 l.toArray.size l.toArray d) (hs : Go.Sort.SortedIn (Go.Proofs.ltOf fun a b : Mv => cmpS a.name b.name) 0 l.toArray.size d) :
  d.size = l.length ∧ d.toList.Perm l ∧ d.toList.Pairwise fun a b => strLt b.name a.name = false := by
 have h1 : d.size = l.length := by simpa using hp.1
 refine ⟨h1, ?_, ?_⟩
 ·have h2 := hp.2.2
  have e1 : d.extract 0 l.toArray.size = d := by rw [show l.toArray.size = d.size by simpa using h1.symm]; simp
  rw [e1] at h2
  simpa using h2
 ·rw [List.pairwise_iff_getElem]
  intro i j hi hj hij
  have := hs i j (Nat.zero_le _) hij (by simpa [h1] using hj)
  rw [getElem!_pos d j (by simpa using hj), getElem!_pos d i (by simpa using hi)] at this
  unfold Go.Proofs.ltOf at this
  cases e : strLt d.toList[j].name d.toList[i].name
  ·rfl
  ·have h3 := (cmpS_lt _ _).2 e
   simp only [Array.getElem_toList] at h3
   rw [decide_eq_true h3] at this; cases this
theorem swoN : Go.Sort.SWO (Go.Proofs.ltOf fun a b : Mv => cmpS a.name b.name) := by
 have e : ∀ x y : Mv, Go.Proofs.ltOf (fun a b : Mv => cmpS a.name b.name) x y = strLt x.name y.name := fun x y => by
  unfold Go.Proofs.ltOf
  cases h : strLt x.name y.name
  ·exact decide_eq_false fun h2 => by rw [(cmpS_lt _ _).1 h2] at h; cases h
  ·exact decide_eq_true ((cmpS_lt _ _).2 h)
 refine ⟨fun x => ?_, fun x y z h1 h2 => ?_, fun x y z h1 h2 => ?_⟩
 ·rw [e]; exact strLt_irrefl _
 ·rw [e] at *; exact less_trans _ _ _ h1 h2
 ·rw [e] at *; exact strLt_ntrans h1 h2
end Go.Proofs.YtjdgpgfiomnjkaaGreatDoor
namespace Go.Proofs
open Go.Shelf
def Tryz.sortU_ren : Go.Shelf.Ren := ⟨fun | 6 => 126 | 15 => 154 | 14 => 182 | 28 => 209 | 29 => 210 | 20 => 226 | 21 => 227 | 22 => 228 | 23 => 229 | 24 => 230 | 25 => 231 | 26 => 232 | 27 => 233 | 46 => 256 | 47 => 242 | 48 => 243 | 49 => 257 | 50 => 258 | 57 => 270 | n => n, fun | 22 => 24 | 24 => 107 | 25 => 167 | 3 => 3 | 39 => 187 | 0 => 0 | 53 => 229 | 55 => 231 | 4 => 4 | 46 => 223 | 45 => 222 | 50 => 130 | 5 => 5 | 9 => 9 | 66 => 255 | 70 => 259 | 76 => 279 | 77 => 153 | n => n, fun | n => n⟩
theorem Tryz.sortU : Go.Proofs.SlLaysF0.n6 Tryz.prog Tryz.sortU_ren := {
 mixed := by kernel_rfl
 f6 := ⟨Tryz.f126.name, by decide, Tryz.func126.trans (congrArg some (by kernel_rfl))⟩
 f14 := ⟨Tryz.f182.name, by decide, Tryz.func182.trans (congrArg some (by kernel_rfl))⟩
 f15 := Tryz.func154.trans (congrArg some (by kernel_rfl))
 f20 := ⟨Tryz.f226.name, by decide, Tryz.func226.trans (congrArg some (by kernel_rfl))⟩
 f21 := ⟨Tryz.f227.name, by decide, Tryz.func227.trans (congrArg some (by kernel_rfl))⟩
 f22 := ⟨Tryz.f228.name, by decide, Tryz.func228.trans (congrArg some (by kernel_rfl))⟩
 f23 := ⟨Tryz.f229.name, by decide, Tryz.func229.trans (congrArg some (by kernel_rfl))⟩
 f24 := ⟨Tryz.f230.name, by decide, Tryz.func230.trans (congrArg some (by kernel_rfl))⟩
 f25 := ⟨Tryz.f231.name, by decide, Tryz.func231.trans (congrArg some (by kernel_rfl))⟩
 f26 := ⟨Tryz.f232.name, by decide, Tryz.func232.trans (congrArg some (by kernel_rfl))⟩
 f27 := ⟨Tryz.f233.name, by decide, Tryz.func233.trans (congrArg some (by kernel_rfl))⟩
 f28 := Tryz.func209.trans (congrArg some (by kernel_rfl))
 f29 := Tryz.func210.trans (congrArg some (by kernel_rfl))
 f46 := ⟨Tryz.f256.name, by decide, Tryz.func256.trans (congrArg some (by kernel_rfl))⟩
 f47 := Tryz.func242.trans (congrArg some (by kernel_rfl))
 f48 := Tryz.func243.trans (congrArg some (by kernel_rfl))
 f49 := ⟨Tryz.f257.name, by decide, Tryz.func257.trans (congrArg some (by kernel_rfl))⟩
 f50 := ⟨Tryz.f258.name, by decide, Tryz.func258.trans (congrArg some (by kernel_rfl))⟩
 f57 := ⟨Tryz.f270.name, by decide, Tryz.func270.trans (congrArg some (by kernel_rfl))⟩
 t0 := Tryz.underlying0
 a0 := Tryz.isAgg0
 z0 := Tryz.sizeOf0
 v0 := Tryz.zeroValue0
 t3 := Tryz.underlying3
 a3 := Tryz.isAgg3
 z3 := Tryz.sizeOf3
 v3 := Tryz.zeroValue3
 t4 := Tryz.underlying4
 a4 := Tryz.isAgg4
 z4 := Tryz.sizeOf4
 v4 := Tryz.zeroValue4
 t5 := Tryz.underlying5
 a5 := Tryz.isAgg5
 z5 := Tryz.sizeOf5
 v5 := Tryz.zeroValue5
 t9 := Tryz.underlying9
 a9 := Tryz.isAgg9
 z9 := Tryz.sizeOf9
 v9 := Tryz.zeroValue9
 t22 := Tryz.underlying24
 a22 := Tryz.isAgg24
 z22 := Tryz.sizeOf24
 v22 := Tryz.zeroValue24
 t25 := Tryz.underlying167
 a25 := Tryz.isAgg167
 z25 := Tryz.sizeOf167
 v25 := Tryz.zeroValue167
 t39 := Tryz.underlying187
 a39 := Tryz.isAgg187
 z39 := Tryz.sizeOf187
 v39 := Tryz.zeroValue187
 t45 := Tryz.underlying222
 a45 := Tryz.isAgg222
 z45 := Tryz.sizeOf222
 v45 := Tryz.zeroValue222
 t46 := Tryz.underlying223
 a46 := Tryz.isAgg223
 z46 := Tryz.sizeOf223
 v46 := Tryz.zeroValue223
 t50 := Tryz.underlying130
 a50 := Tryz.isAgg130
 z50 := Tryz.sizeOf130
 v50 := Tryz.zeroValue130
 t53 := Tryz.underlying229
 a53 := Tryz.isAgg229
 z53 := Tryz.sizeOf229
 v53 := Tryz.zeroValue229
 t55 := Tryz.underlying231
 a55 := Tryz.isAgg231
 z55 := Tryz.sizeOf231
 v55 := Tryz.zeroValue231
 t66 := Tryz.underlying255
 a66 := Tryz.isAgg255
 z66 := Tryz.sizeOf255
 v66 := Tryz.zeroValue255
 t70 := Tryz.underlying259
 a70 := Tryz.isAgg259
 z70 := Tryz.sizeOf259
 v70 := Tryz.zeroValue259
 t76 := Tryz.underlying279
 a76 := Tryz.isAgg279
 z76 := Tryz.sizeOf279
 v76 := Tryz.zeroValue279
 t77 := Tryz.underlying153
 a77 := Tryz.isAgg153
 z77 := Tryz.sizeOf153
 v77 := Tryz.zeroValue153 }
end Go.Proofs
