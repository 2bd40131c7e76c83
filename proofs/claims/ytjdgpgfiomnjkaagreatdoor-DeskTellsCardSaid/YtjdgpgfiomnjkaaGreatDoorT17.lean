/- UpdL: PushP, UpdL, LineP, VoteP. -/
import Derived.Test.YtjdgpgfiomnjkaaGreatDoorT16
import Derived.Lib.ItoaNum
import Derived.Lib.Join
import Derived.Shelf.SlSortCmp.WholeK
import Derived.Shelf.SlGeneric
import Derived.Ground.SlsfProg
set_option linter.all false
set_option maxHeartbeats 4000000
set_option maxRecDepth 100000
namespace Go.Proofs.YtjdgpgfiomnjkaaGreatDoor
open Go.RowKit
theorem VL {l : List Rf} (h : Kw l) (s : ByteArray) (id : Int) : CM (CQ l s id) s = id := by
 rcases EM (Mf h s id) s with ⟨e, hn⟩ | ⟨x, hx, hs, e⟩
 ·by_cases h0 : id = 0
  ·rw [e, h0]
  ·exact absurd rfl (hn ⟨s, id⟩ (GA.2 (.inr ⟨h0, rfl⟩)))
 ·rcases GA.1 hx with ⟨_, hne⟩ | ⟨_, rfl⟩
  ·exact absurd hs hne
  ·exact e
theorem LO {l : List Rf} (h : Kw l) {s t : ByteArray} (id : Int) (hne : t ≠ s) : CM (CQ l s id) t = CM l t := by
 rcases EM h t with ⟨e, hn⟩ | ⟨x, hx, hs, e⟩
 ·rw [e, KP]
  intro x hx
  rcases GA.1 hx with ⟨hx, _⟩ | ⟨_, rfl⟩
  ·exact hn x hx
  ·exact fun e => hne e.symm
 ·rw [e]
  have := Mw (Mf h s id) (x := x) (GA.2 (.inl ⟨hx, by rw [hs]; exact hne⟩))
  rwa [hs] at this
theorem VU {l : List Rf} (h : Kw l) {s : ByteArray} {id : Int} (h0 : id ≠ 0) (e : CM l s = id) : CQ l s id = l := by
 refine PF (Mf h s id) h fun x => ?_
 rw [GA]
 rcases EM h s with ⟨e0, _⟩ | ⟨y, hy, hs, e1⟩
 ·exact absurd (e.symm.trans e0) h0
 ·have hyy : y = ⟨s, id⟩ := by
   cases y
   simp only at hs e1
   rw [hs, ← e1, e]
  constructor
  ·rintro (⟨hx, _⟩ | ⟨_, rfl⟩)
   ·exact hx
   ·rw [← hyy]; exact hy
  ·intro hx
   by_cases hn : x.name = s
   ·exact .inr ⟨h0, by rw [← hyy]; exact Qc h hx hy (by rw [hn, hs])⟩
   ·exact .inl ⟨hx, hn⟩
theorem WB {us : List Mv} (h : ED us) {i j : Nat} (hij : i < j) (hj : j < us.length) : (mv us i).name ≠ (mv us j).name := by
 have := List.pairwise_iff_getElem.1 h.once i j (by omega) hj hij
 rwa [← CW, ← CW] at this
theorem QE {l : List Rf} (h : Kw l) {us : List Mv} (hu : ED us) {j : Nat} : ∀ i, j < i → i ≤ us.length → CM (AL l us i) (mv us j).name = (mv us j).new
 | 0, h1, _ => absurd h1 (by omega)
 | i + 1, h1, h2 => by
  show CM (CQ (AL l us i) (mv us i).name (mv us i).new) _ = _
  by_cases e : j = i
  ·subst e; exact VL (EL h us _) _ _
  ·rw [LO (EL h us _) _ (WB hu (by omega) (by omega))]
   exact QE h hu i (by omega) (by omega)
theorem MT {l : List Rf} (h : Kw l) {us : List Mv} (hu : ED us) {j : Nat} (hj : j < us.length) : ∀ i, i ≤ j → CM (AL l us i) (mv us j).name = CM l (mv us j).name
 | 0, _ => rfl
 | i + 1, h1 => by
  show CM (CQ (AL l us i) (mv us i).name (mv us i).new) _ = _
  rw [LO (EL h us _) _ (fun e => WB hu (i := i) (j := j) (by omega) hj e.symm)]
  exact MT h hu hj i (by omega)
structure Vl (r : An) (p : BJ) (L : List Obj) (M : List Rf) : Prop where
 add : Dx r.store p.objects = 0
 whole : L = Cz r.store p.objects
 moved : M = AL r.refs p.updates p.updates.length
 mvs : ED p.updates
 refs : Aq r.refs L = 0
 each : Ap (BC r.refs L p.updates p.force) p.updates.length = 0
 right : AD M L = 0
theorem RY {r : An} {p : BJ} (h : Bn r p = 0) : Vl r p (Ff r p) (EG r p) := by
 have h' := h
 unfold Bn at h'
 by_cases ha : Dx r.store p.objects = 0
 ·rw [if_neg (by simp [ha])] at h'
  have h2 := h'
  unfold CN at h2
  by_cases hc : Aq r.refs (Cz r.store p.objects) = 0
  ·rw [if_neg (by simp [hc])] at h2
   by_cases hm : AO p.updates = 0
   ·rw [if_neg (by simp [hm])] at h2
    have hL : Ff r p = Cz r.store p.objects := by unfold Ff; rw [if_pos h]
    have hM : EG r p = AL r.refs p.updates p.updates.length := by unfold EG Ef; rw [if_pos h, if_pos h']
    rw [hL, hM]
    unfold Ca at h2
    by_cases hs : Ap (BC r.refs (Cz r.store p.objects) p.updates p.force) p.updates.length = 0
    ·rw [if_pos hs] at h2
     exact ⟨ha, rfl, rfl, IH.1 hm, hc, hs, h2⟩
    ·rw [if_neg hs] at h2; exact absurd h2 hs
   ·rw [if_pos hm] at h2; exact absurd h2 hm
  ·rw [if_pos hc] at h2; exact absurd h2 hc
 ·rw [if_pos ha] at h'; exact absurd h' ha
theorem Vl.store {r : An} {p : BJ} {L : List Obj} {M : List Rf} (h : Vl r p L M) : Ag L = 0 := (Bq.1 h.refs).1
def VN (us : List Mv) : Bool := us.any fun u => u.old != u.new
structure CI (l : List Rf) (objs : List Obj) (us : List Mv) (force : Bool) (M : List Rf) : Prop where
 refs : Aq l objs = 0
 mvs : ED us
 each : ∀ u ∈ us, CM l u.name = u.old ∧ (u.new ≠ 0 → Az objs u.new = 3 ∧ (u.old ≠ 0 → force = false → Dh objs u.old u.new = true))
 mem : ∀ x, x ∈ M ↔ (∃ u ∈ us, u.new ≠ 0 ∧ x = ⟨u.name, u.new⟩) ∨ (x ∈ l ∧ ∀ u ∈ us, u.name ≠ x.name)
 asc : Kw M
 right : AD M objs = 0
theorem OF {l : List Rf} {us : List Mv} (hu : ED us) (x : Rf) : ∀ k, k ≤ us.length → (x ∈ AL l us k ↔ (∃ i, i < k ∧ (mv us i).new ≠ 0 ∧ x = ⟨(mv us i).name, (mv us i).new⟩) ∨ (x ∈ l ∧ ∀ i, i < k → (mv us i).name ≠ x.name))
 | 0, _ => by simp [AL]
 | k + 1, hk => by
  show x ∈ CQ (AL l us k) (mv us k).name (mv us k).new ↔ _
  rw [GA, OF hu x k (by omega)]
  constructor
  ·rintro (⟨⟨i, hi, h0, rfl⟩ | ⟨hx, hn⟩, hne⟩ | ⟨h0, rfl⟩)
   ·exact .inl ⟨i, by omega, h0, rfl⟩
   ·refine .inr ⟨hx, fun i hi => ?_⟩
    by_cases e : i = k
    ·subst e; exact fun e => hne e.symm
    ·exact hn i (by omega)
   ·exact .inl ⟨k, by omega, h0, rfl⟩
  ·rintro (⟨i, hi, h0, rfl⟩ | ⟨hx, hn⟩)
   ·by_cases e : i = k
    ·subst e; exact .inr ⟨h0, rfl⟩
    ·exact .inl ⟨.inl ⟨i, by omega, h0, rfl⟩, WB hu (by omega) (by omega)⟩
   ·exact .inl ⟨.inr ⟨hx, fun i hi => hn i (by omega)⟩, fun e => hn k (by omega) e.symm⟩
theorem PE {l : List Rf} {us : List Mv} (hu : ED us) (x : Rf) : x ∈ AL l us us.length ↔ (∃ u ∈ us, u.new ≠ 0 ∧ x = ⟨u.name, u.new⟩) ∨ (x ∈ l ∧ ∀ u ∈ us, u.name ≠ x.name) := by
 rw [OF hu x _ (Nat.le_refl _)]
 constructor
 ·rintro (⟨i, hi, h0, e⟩ | ⟨hx, hn⟩)
  ·exact .inl ⟨_, Cs hi, h0, e⟩
  ·refine .inr ⟨hx, fun u hu => ?_⟩
   obtain ⟨i, hi, rfl⟩ := FC hu
   exact hn i hi
 ·rintro (⟨u, hu, h0, e⟩ | ⟨hx, hn⟩)
  ·obtain ⟨i, hi, rfl⟩ := FC hu
   exact .inl ⟨i, hi, h0, e⟩
  ·exact .inr ⟨hx, fun i hi => hn _ (Cs hi)⟩
theorem CI.list {l : List Rf} {objs : List Obj} {us : List Mv} {force : Bool} {M : List Rf} (h : CI l objs us force M) : AL l us us.length = M :=
 PF (EL (Bq.1 h.refs).2.asc us _) h.asc fun x => by rw [PE h.mvs, h.mem]
theorem CI.of {l : List Rf} {objs : List Obj} {us : List Mv} {force : Bool} {M : List Rf} (h : CI l objs us force M) : CN l objs us force = 0 ∧ Ef l objs us force = M := by
 have hasc : Kw l := (Bq.1 h.refs).2.asc
 have hz : Ap (BC l objs us force) us.length = 0 := AW fun i hi => GD.2 (by
  rw [MT hasc h.mvs hi i (Nat.le_refl _)]
  exact h.each _ (Cs hi))
 have h0 : CN l objs us force = 0 := by
  unfold CN Ca
  rw [if_neg (by simpa using h.refs), if_neg (by simpa using IH.2 h.mvs), if_pos hz, h.list]
  exact h.right
 exact ⟨h0, by unfold Ef; rw [if_pos h0]; exact h.list⟩
theorem ED.perm {us vs : List Mv} (h : ED us) (hp : vs.Perm us) : ED vs where
 some := by rw [hp.length_eq]; exact h.some
 many := by rw [hp.length_eq]; exact h.many
 name := fun u hu => h.name u (hp.mem_iff.1 hu)
 old := fun u hu => h.old u (hp.mem_iff.1 hu)
 new := fun u hu => h.new u (hp.mem_iff.1 hu)
 moves := fun u hu => h.moves u (hp.mem_iff.1 hu)
 once := (hp.pairwise_iff (fun {a b} hab e => hab e.symm)).2 h.once
theorem CI.perm {l : List Rf} {objs : List Obj} {us vs : List Mv} {force : Bool} {M : List Rf} (h : CI l objs us force M) (hp : vs.Perm us) : CI l objs vs force M where
 refs := h.refs
 mvs := h.mvs.perm hp
 each := fun u hu => h.each u (hp.mem_iff.1 hu)
 mem := fun x => by
  rw [h.mem]
  simp only [hp.mem_iff]
 asc := h.asc
 right := h.right
theorem WC {objs : List Obj} (h : Ag objs = 0) : ¬ Az objs 0 = 3 := fun hk => by
 obtain ⟨j, hj, he, _⟩ := Fw (l := objs) (id := 0) (by rw [hk]; decide)
 have h3 := (Gx h).each j hj
 unfold Ax at h3
 have hw : within (obj objs j).id 1 99 = false := by rw [he]; decide
 simp [hw] at h3
def Sx (u : Mv) : Mv := ⟨u.name, u.new, u.old⟩
theorem CI.asc0 {l : List Rf} {objs : List Obj} {us : List Mv} {force : Bool} {M : List Rf} (h : CI l objs us force M) : Kw l := (Bq.1 h.refs).2.asc
theorem CI.told {l : List Rf} {objs : List Obj} {us : List Mv} {force : Bool} {M : List Rf} (h : CI l objs us force M) {u : Mv} (hu : u ∈ us) : CM M u.name = u.new := by
 obtain ⟨i, hi, rfl⟩ := FC hu
 rw [← h.list]; exact QE h.asc0 h.mvs _ hi (Nat.le_refl _)
theorem CI.stays {l : List Rf} {objs : List Obj} {us : List Mv} {force : Bool} {M : List Rf} (h : CI l objs us force M) {s : ByteArray} (hs : ∀ u ∈ us, u.name ≠ s) : CM M s = CM l s := by
 rcases EM h.asc0 s with ⟨e, hn⟩ | ⟨x, hx, hxs, e⟩
 ·rw [e]
  refine KP fun x hx e2 => ?_
  rcases (h.mem x).1 hx with ⟨u, hu, _, rfl⟩ | ⟨hx2, _⟩
  ·exact hs u hu e2
  ·exact hn x hx2 e2
 ·rw [e]
  have := Mw h.asc (x := x) ((h.mem x).2 (.inr ⟨hx, fun u hu => by rw [hxs]; exact hs u hu⟩))
  rwa [hxs] at this
theorem CI.back {l : List Rf} {objs : List Obj} {us : List Mv} {force : Bool} {M : List Rf} (h : CI l objs us force M) : CI M objs (us.map Sx) true l := by
 have hok := (Bq.1 h.refs)
 have hu := h.mvs
 refine ⟨Bq.2 ⟨hok.1, ES h.right⟩, ⟨?_, ?_, ?_, ?_, ?_, ?_, ?_⟩, ?_, ?_, h.asc0, Lx hok.2⟩
 ·rw [List.length_map]; exact hu.some
 ·rw [List.length_map]; exact hu.many
 ·intro u hm; obtain ⟨v, hv, rfl⟩ := List.mem_map.1 hm; exact hu.name v hv
 ·intro u hm; obtain ⟨v, hv, rfl⟩ := List.mem_map.1 hm; exact hu.new v hv
 ·intro u hm; obtain ⟨v, hv, rfl⟩ := List.mem_map.1 hm; exact hu.old v hv
 ·intro u hm; obtain ⟨v, hv, rfl⟩ := List.mem_map.1 hm; exact fun e => hu.moves v hv ⟨e.2, e.1⟩
 ·rw [List.pairwise_map]; exact hu.once
 ·intro u hm
  obtain ⟨v, hv, rfl⟩ := List.mem_map.1 hm
  refine ⟨h.told hv, fun h0 => ⟨?_, fun _ e => by cases e⟩⟩
  rcases EM h.asc0 v.name with ⟨e, _⟩ | ⟨x, hx, hxs, e⟩
  ·exact absurd ((h.each v hv).1.symm.trans e) h0
  ·have e2 : v.old = x.id := (h.each v hv).1.symm.trans e
   show Az objs v.old = 3
   rw [e2]
   obtain ⟨i, hi, rfl⟩ := Ls hx
   exact hok.2.commit i hi
 ·intro x
  constructor
  ·intro hx
   by_cases ht : ∃ u ∈ us, u.name = x.name
   ·obtain ⟨u, hu2, e⟩ := ht
    refine .inl ⟨Sx u, List.mem_map.2 ⟨u, hu2, rfl⟩, ?_⟩
    have e2 : CM l u.name = x.id := by rw [e]; exact Mw h.asc0 hx
    have e3 : u.old = x.id := (h.each u hu2).1.symm.trans e2
    obtain ⟨i, hi, rfl⟩ := Ls hx
    have hk := hok.2.commit i hi
    refine ⟨fun h0 => ?_, ?_⟩
    ·have h0' : (rf l i).id = 0 := by rw [← e3]; exact h0
     rw [h0'] at hk
     exact absurd hk (WC hok.1)
    ·show rf l i = ⟨u.name, u.old⟩
     rw [e, e3]
   ·refine .inr ⟨(h.mem x).2 (.inr ⟨hx, fun u hu e => ht ⟨u, hu, e⟩⟩), fun u hm e => ?_⟩
    obtain ⟨v, hv, rfl⟩ := List.mem_map.1 hm
    exact ht ⟨v, hv, e⟩
  ·rintro (⟨u, hm, h0, rfl⟩ | ⟨hx, hn⟩)
   ·obtain ⟨v, hv, rfl⟩ := List.mem_map.1 hm
    rcases EM h.asc0 v.name with ⟨e, _⟩ | ⟨y, hy, hys, e⟩
    ·exact absurd ((h.each v hv).1.symm.trans e) h0
    ·have e2 : v.old = y.id := (h.each v hv).1.symm.trans e
     show (⟨v.name, v.old⟩ : Rf) ∈ l
     rw [e2, ← hys]; exact hy
   ·rcases (h.mem x).1 hx with ⟨u, hu2, _, rfl⟩ | ⟨hx2, _⟩
    ·exact absurd rfl (hn (Sx u) (List.mem_map.2 ⟨u, hu2, rfl⟩))
    ·exact hx2
theorem CI.twice {l : List Rf} {objs : List Obj} {us : List Mv} {force : Bool} {M : List Rf} (h : CI l objs us force M) (hm : VN us = true) : CN M objs us force = 4 := by
 have hM : Fg M objs := ES h.right
 have hz : ∀ j, j < us.length → _ := fun j hj => h.each _ (Cs (l := us) (i := j) hj)
 have hid : ∀ j, j < us.length → CM M (mv us j).name = (mv us j).new := fun j hj => h.told (Cs hj)
 have hex : ∃ k, k < us.length ∧ (mv us k).old ≠ (mv us k).new ∧ ∀ j, j < k → (mv us j).old = (mv us j).new := by
  unfold VN at hm
  obtain ⟨u, hu, hne⟩ := List.any_eq_true.1 hm
  obtain ⟨i, hi, rfl⟩ := FC hu
  have hi2 : (mv us i).old ≠ (mv us i).new := by simpa using hne
  clear hm hu hne
  induction i using Nat.strongRecOn with
  | ind i ih =>
   by_cases hall : ∀ j, j < i → (mv us j).old = (mv us j).new
   ·exact ⟨i, hi, hi2, hall⟩
   ·have ⟨j, hj⟩ := Classical.not_forall.1 hall
    have ⟨hj1, hj2⟩ := Classical.not_imp.1 hj
    exact ih j hj1 (by omega) hj2
 obtain ⟨k, hk, hne, hall⟩ := hex
 have hstay : ∀ j, j ≤ k → AL M us j = M := by
  intro j hj
  induction j with
  | zero => rfl
  | succ j ih =>
   show CQ (AL M us j) _ _ = M
   rw [ih (by omega)]
   have e := hall j (by omega)
   have hmv := h.mvs.moves _ (Cs (l := us) (i := j) (by omega))
   exact VU hM.asc (fun e0 => hmv ⟨by rw [e, e0], e0⟩) (hid j (by omega))
 have hbefore : Ap (BC M objs us force) k = 0 := AW fun j hj => by
  unfold BC
  rw [hstay j (by omega)]
  exact GD.2 ⟨by rw [hid j (by omega), hall j hj], (hz j (by omega)).2⟩
 have hat : BC M objs us force k = 4 := by
  unfold BC Cq
  rw [hstay k (Nat.le_refl _), if_pos (by rw [hid k hk]; exact fun e => hne e.symm)]
 have hscan : Ap (BC M objs us force) us.length = 4 := by
  rw [BZ hbefore (by rw [hat]; decide) hk, hat]
 unfold CN Ca
 rw [if_neg (by rw [Bq.2 ⟨(Bq.1 h.refs).1, hM⟩]; simp), if_neg (by simp [IH.2 h.mvs]), hscan]
 rfl
theorem MP {a b : ByteArray} (h : a.data.toList = b.data.toList) : a = b := by
 cases a; cases b; congr; exact Array.toList_inj.1 h
def AS (n : Int) : ByteArray := ⟨(Lib.decDigits n.toNat).toArray⟩
def WU : ByteArray := ⟨#[32]⟩
def Fj : ByteArray := ⟨#[59]⟩
def Jc (u : Mv) : ByteArray := ⟨(Lib.join [u.name.data.toList, (AS u.old).data.toList, (AS u.new).data.toList] [32]).toArray⟩ ++ Fj
def EP (u : Mv) : ByteArray := ((((u.name ++ WU) ++ AS u.old) ++ WU) ++ AS u.new) ++ Fj
theorem Qi (u : Mv) : Jc u = EP u := by
 apply MP
 unfold Jc EP WU Fj
 simp [Lib.join_cons, Lib.joinTail]
def Iw : List Mv → ByteArray → ByteArray
 | [], s => s
 | u :: l, s => Iw l (s ++ Jc u)
theorem JI (l : List Mv) (u : Mv) : ∀ s, Iw (l ++ [u]) s = Iw l s ++ Jc u := by
 induction l with
 | nil => intro s; rfl
 | cons v l ih => intro s; exact ih _
def Il (l : List Mv) (s : ByteArray) : Nat → Int
 | 0 => -1
 | k + 1 => if Aw s (mv l k).name = true ∧ (Il l s k < 0 ∨ Aw (mv l k).name (mv l (Il l s k).toNat).name = true) then (k : Int) else Il l s k
theorem Jf (l : List Mv) (s : ByteArray) : ∀ k, (Il l s k = -1 ∧ ∀ i, i < k → Aw s (mv l i).name = false) ∨
  ∃ a : Nat, a < k ∧ Il l s k = (a : Int) ∧ Aw s (mv l a).name = true ∧ ∀ i, i < k → Aw s (mv l i).name = true → Aw (mv l i).name (mv l a).name = false
 | 0 => .inl ⟨rfl, fun i hi => absurd hi (by omega)⟩
 | k + 1 => by
  unfold Il
  rcases Jf l s k with ⟨e, h⟩ | ⟨a, ha, e, h1, h2⟩
  ·cases hs : Aw s (mv l k).name
   ·rw [if_neg (by simp)]
    refine .inl ⟨e, fun i hi => ?_⟩
    by_cases hk : i = k
    ·subst hk; exact hs
    ·exact h i (by omega)
   ·rw [if_pos ⟨rfl, .inl (by omega)⟩]
    refine .inr ⟨k, by omega, rfl, hs, fun i hi h3 => ?_⟩
    by_cases hk : i = k
    ·subst hk; exact BP _
    ·rw [h i (by omega)] at h3; cases h3
  ·rw [e]
   simp only [Int.toNat_natCast]
   cases hs : Aw s (mv l k).name
   ·rw [if_neg (by simp)]
    refine .inr ⟨a, by omega, rfl, h1, fun i hi h3 => ?_⟩
    by_cases hk : i = k
    ·subst hk; rw [hs] at h3; cases h3
    ·exact h2 i (by omega) h3
   ·by_cases hl : Aw (mv l k).name (mv l a).name = true
    case neg =>
     rw [if_neg (fun h => h.2.elim (fun h => by omega) hl)]
     refine .inr ⟨a, by omega, rfl, h1, fun i hi h3 => ?_⟩
     by_cases hk : i = k
     ·subst hk; simpa using hl
     ·exact h2 i (by omega) h3
    rw [if_pos ⟨rfl, .inr hl⟩]
    refine .inr ⟨k, by omega, rfl, hs, fun i hi h3 => ?_⟩
    by_cases hk : i = k
    ·subst hk; exact BP _
    ·cases h4 : Aw (mv l i).name (mv l k).name
     ·rfl
     ·have := DG h4 hl
      rw [h2 i (by omega) h3] at this; cases this
def Gd (l : List Mv) (s : ByteArray) : Nat := (Il l s l.length).toNat
def Cd (l : List Mv) : Nat → ByteArray × ByteArray
 | 0 => (ByteArray.empty, ByteArray.empty)
 | n + 1 => ((Cd l n).1 ++ EP (mv l (Gd l (Cd l n).2)), (mv l (Gd l (Cd l n).2)).name)
def Fb (l : List Mv) : ByteArray := (Cd l l.length).1
def KX (d : List Mv) : Prop := d.Pairwise fun a b => Aw a.name b.name = true
theorem ME {s : ByteArray} (h : s ≠ ByteArray.empty) : Aw ByteArray.empty s = true := by
 unfold Aw
 rw [ByteArray.toList_eq, ByteArray.toList_eq]
 cases hs : s.data.toList with
 | nil => exact absurd (MP hs) h
 | cons a r => rfl
theorem Ix {l d : List Mv} (hp : d.Perm l) (hd : KX d) (hn : ∀ u ∈ l, u.name ≠ ByteArray.empty) : ∀ n, n ≤ l.length → Cd l n = (Iw (d.take n) ByteArray.empty, if n = 0 then ByteArray.empty else (mv d (n - 1)).name)
 | 0, _ => rfl
 | n + 1, h => by
  have ih := Ix hp hd hn n (by omega)
  have hl := hp.length_eq
  have hnd : n < d.length := by omega
  have hR := List.pairwise_iff_getElem.1 hd
  have hlt : ∀ i j, i < j → j < d.length → Aw (mv d i).name (mv d j).name = true := fun i j hij hj => by
   have := hR i j (by omega) hj hij
   rwa [← CW, ← CW] at this
  have hs : ∀ j, n ≤ j → j < d.length → Aw (Cd l n).2 (mv d j).name = true := fun j hj hjd => by
   rw [ih]
   by_cases h0 : n = 0
   ·simp only [if_pos h0]; exact ME (hn _ (hp.mem_iff.1 (Cs hjd)))
   ·simp only [if_neg h0]; exact hlt _ _ (by omega) hjd
  have hs' : ∀ j, j < n → Aw (Cd l n).2 (mv d j).name = false := fun j hj => by
   rw [ih]
   simp only [if_neg (show ¬ n = 0 by omega)]
   by_cases e : j = n - 1
   ·rw [e]; exact BP _
   ·exact EZ (hlt j (n - 1) (by omega) (by omega))
  have hpick : mv l (Gd l (Cd l n).2) = mv d n := by
   generalize (Cd l n).2 = s at hs hs'
   obtain ⟨i, hi, e⟩ := FC (hp.mem_iff.1 (Cs hnd))
   rcases Jf l s l.length with ⟨_, h2⟩ | ⟨a, ha, ea, h1, h2⟩
   ·have := h2 i hi; rw [e, hs n (Nat.le_refl _) hnd] at this; cases this
   ·unfold Gd
    rw [ea, Int.toNat_natCast]
    obtain ⟨j, hj, ej⟩ := FC (hp.mem_iff.2 (Cs ha))
    rw [← ej] at h1 h2 ⊢
    have h3 := h2 i hi (by rw [e]; exact hs n (Nat.le_refl _) hnd)
    rw [e] at h3
    rcases Nat.lt_or_ge j n with hjn | hjn
    ·rw [hs' j hjn] at h1; cases h1
    ·rcases Nat.lt_or_ge n j with hnj | hnj
     ·rw [hlt n j hnj hj] at h3; cases h3
     ·rw [show j = n by omega]
  show (_ ++ EP (mv l (Gd l (Cd l n).2)), (mv l (Gd l (Cd l n).2)).name) = _
  rw [hpick, ih]
  simp only [if_neg (show ¬ n + 1 = 0 by omega), Nat.add_sub_cancel]
  rw [List.take_succ_eq_append_getElem hnd, JI, Qi, CW hnd]
theorem TM {l d : List Mv} (hp : d.Perm l) (hd : KX d) (hn : ∀ u ∈ l, u.name ≠ ByteArray.empty) : Fb l = Iw d ByteArray.empty := by
 unfold Fb
 rw [Ix hp hd hn _ (Nat.le_refl _), ← hp.length_eq, List.take_length]
theorem Qk {d : List Mv} (h : d.Pairwise fun a b => Aw b.name a.name = false) (hn : d.Pairwise fun a b => a.name ≠ b.name) : KX d := by
 unfold KX
 refine (h.and hn).imp fun {a b} hab => ?_
 cases e : Aw a.name b.name
 ·exact absurd (Fq e hab.1) hab.2
 ·rfl
theorem Jj {s : ByteArray} (h : AQ s = 0) : s ≠ ByteArray.empty := by
 rintro rfl
 exact absurd h (by decide +kernel)
theorem TP {l d : List Mv} (hp : d.Perm l) (hd : KX d) (hn : ∀ u ∈ l, u.name ≠ ByteArray.empty) {n : Nat} (h : n < l.length) : ∃ i, i < l.length ∧ Aw (Cd l n).2 (mv l i).name = true := by
 have hnd : n < d.length := by have := hp.length_eq; omega
 obtain ⟨i, hi, e⟩ := FC (hp.mem_iff.1 (Cs hnd))
 refine ⟨i, hi, ?_⟩
 rw [e, Ix hp hd hn n (by omega)]
 by_cases h0 : n = 0
 ·simp only [if_pos h0]; exact ME (hn _ (hp.mem_iff.1 (Cs hnd)))
 ·simp only [if_neg h0]
  have := List.pairwise_iff_getElem.1 hd (n - 1) n (by omega) hnd (by omega)
  rwa [← CW, ← CW] at this
theorem RN {l : List Mv} (h : ED l) : ∃ d : List Mv, d.Perm l ∧ KX d := by
 have hd1 : (l.mergeSort fun a b => !Aw b.name a.name).Perm l := List.mergeSort_perm _ _
 have hd2 : (l.mergeSort fun a b => !Aw b.name a.name).Pairwise fun a b => Aw b.name a.name = false := by
  have := List.pairwise_mergeSort (le := fun a b : Mv => !Aw b.name a.name) (fun a b c h1 h2 => by
   simp only [Bool.not_eq_true'] at h1 h2 ⊢
   exact Kk h2 h1) (fun a b => by
   cases e : Aw b.name a.name
   ·simp
   ·simp [EZ e]) l
  exact this.imp fun {a b} hab => by simpa using hab
 exact ⟨_, hd1, Qk hd2 ((h.perm hd1).once)⟩
theorem Mo {l : List Mv} (h : ED l) {n : Nat} (hn : n < l.length) : ∃ a : Nat, a < l.length ∧ Il l (Cd l n).2 l.length = (a : Int) ∧ Cd l (n + 1) = ((Cd l n).1 ++ EP (mv l a), (mv l a).name) := by
 obtain ⟨d, hp, hd⟩ := RN h
 obtain ⟨i, hi, hs⟩ := TP hp hd (fun u hu => Jj (h.name u hu)) hn
 rcases Jf l (Cd l n).2 l.length with ⟨_, h2⟩ | ⟨a, ha, ea, _, _⟩
 ·rw [h2 i hi] at hs; cases hs
 ·refine ⟨a, ha, ea, ?_⟩
  have e : Gd l (Cd l n).2 = a := by unfold Gd; rw [ea, Int.toNat_natCast]
  show (_ ++ EP (mv l (Gd l (Cd l n).2)), (mv l (Gd l (Cd l n).2)).name) = _
  rw [e]
def GY (s : ByteArray) : Bool := [121, 101, 115].isPrefixOf s.data.toList
theorem OL : GY ByteArray.empty = false := by decide +kernel
theorem WS {s : ByteArray} (h : GY s = true) : 3 ≤ s.size := by
 unfold GY at h
 have := (List.isPrefixOf_iff_prefix.1 h).length_le
 simpa using this
def DT : List (ByteArray × Int) → ByteArray → List (ByteArray × Int)
 | [], _ => []
 | (v, n) :: r, s => if v = s ∨ n = 0 then (s, n + 1) :: r else (v, n) :: DT r s
def Xb : List (ByteArray × Int) := [(ByteArray.empty, 0), (ByteArray.empty, 0), (ByteArray.empty, 0)]
def FU (b : List (ByteArray × Int)) (s : ByteArray) : List (ByteArray × Int) := if s = ByteArray.empty then b else DT b s
def OM (l : List ByteArray) : List (ByteArray × Int) := l.foldl FU Xb
def En (x : ByteArray × Int) : Bool := decide (3 < 2 * x.2) && GY x.1
def told (o : Option ByteArray) : ByteArray × Bool := match o with | some s => (s, true) | none => (ByteArray.empty, false)
def CO (l : List ByteArray) : ByteArray × Bool := if l.length ≠ 3 then (ByteArray.empty, false) else told (((OM l).find? En).map (·.1))
def LZ (l : List ByteArray) (s : ByteArray) : Nat := l.countP (fun x => decide (x = s))
def FI (l : List ByteArray) (s : ByteArray) : Bool := decide (2 ≤ LZ l s) && GY s
def CS (l : List ByteArray) : ByteArray × Bool := if l.length ≠ 3 then (ByteArray.empty, false) else told (l.find? (FI l))
theorem XP {α : Type} {l : List α} (h : l.length = 3) : ∃ a b c, l = [a, b, c] := by
 match l, h with
 | [a, b, c], _ => exact ⟨a, b, c, rfl⟩
theorem Lb (a b : ByteArray) : a = b ∨ (a ≠ b ∧ b ≠ a) := by
 by_cases h : a = b
 ·exact .inl h
 ·exact .inr ⟨h, fun e => h e.symm⟩
theorem Mz (l : List ByteArray) : CO l = CS l := by
 unfold CO CS
 by_cases h : l.length = 3
 ·rw [if_neg (by simp [h]), if_neg (by simp [h])]
  obtain ⟨a, b, c, rfl⟩ := XP h
  clear h
  congr 1
  have he := OL
  simp only [OM, List.foldl_cons, List.foldl_nil, FU, Xb]
  generalize ByteArray.empty = e at *
  have Hab := Lb a b
  have Hac := Lb a c
  have Hbc := Lb b c
  have hab2 : ∀ x y : Bool, (x = true) ∨ (x = false) := fun x y => by cases x <;> simp
  rcases Lb e a with rfl | ⟨ha, ha'⟩ <;> rcases Lb e b with rfl | ⟨hb, hb'⟩ <;> rcases Lb e c with rfl | ⟨hc, hc'⟩
  all_goals rcases Hab with hab | ⟨h1, h1'⟩
  all_goals rcases Hac with hac | ⟨h2, h2'⟩
  all_goals rcases Hbc with hbc | ⟨h3, h3'⟩
  all_goals try subst hab
  all_goals try subst hac
  all_goals try subst hbc
  all_goals first
   | contradiction
   | (simp_all [DT, List.find?, LZ, FI, En, List.countP_cons]; done)
   | (simp_all [DT, List.find?, LZ, FI, En, List.countP_cons]; repeat' split; all_goals simp_all)
 ·rw [if_pos h, if_pos h]
theorem UV {l : List ByteArray} {x t : ByteArray} (h : x ≠ t) : LZ l x + LZ l t ≤ l.length := by
 unfold LZ
 induction l with
 | nil => simp
 | cons a l ih =>
  rw [List.countP_cons, List.countP_cons, List.length_cons]
  by_cases h1 : a = x
  ·subst h1; simp [h]; omega
  ·by_cases h2 : a = t
   ·subst h2; simp [h1]; omega
   ·simp [h1, h2]; omega
theorem TA {l : List ByteArray} {t : ByteArray} : CS l = (t, true) ↔ l.length = 3 ∧ 2 ≤ LZ l t ∧ GY t = true := by
 unfold CS
 by_cases h : l.length = 3
 ·rw [if_neg (by simp [h])]
  constructor
  ·intro e
   cases hf : l.find? (FI l) with
   | none => rw [hf] at e; cases e
   | some x =>
    rw [hf] at e
    have hx := List.find?_some hf
    cases e
    unfold FI at hx
    simpa [h] using hx
  ·rintro ⟨_, h2, h3⟩
   have ht : t ∈ l := by
    have : 0 < l.countP (fun x => decide (x = t)) := by unfold LZ at h2; omega
    obtain ⟨x, hx, e⟩ := List.countP_pos_iff.1 this
    simp at e
    rw [← e]; exact hx
   cases hf : l.find? (FI l) with
   | none =>
    have := List.find?_eq_none.1 hf t ht
    unfold FI at this
    simp [h2, h3] at this
   | some x =>
    have hx := List.find?_some hf
    unfold FI at hx
    simp only [Bool.and_eq_true, decide_eq_true_eq] at hx
    by_cases e : x = t
    ·rw [e]; rfl
    ·have := UV (l := l) e
     omega
 ·rw [if_pos h]
  constructor
  ·intro e; cases e
  ·intro e; exact absurd e.1 h
def CL (e : Int) : Prop := 0 ≤ e ∧ e ≤ 9
theorem BX {c : Prop} [Decidable c] {a b : Int} (ha : CL a) (hb : CL b) : CL (if c then a else b) := by
 by_cases h : c
 ·rw [if_pos h]; exact ha
 ·rw [if_neg h]; exact hb
theorem Dt {f : Nat → Int} (h : ∀ k, CL (f k)) : ∀ n, CL (Ap f n)
 | 0 => ⟨(by decide : (0 : Int) ≤ 0), (by decide : (0 : Int) ≤ 9)⟩
 | n + 1 => by unfold Ap; exact BX (h n) (Dt h n)
theorem Vn (o : Obj) (i : Nat) : CL (Ce o i) := by unfold Ce; repeat' (first | exact ⟨by decide, by decide⟩ | refine BX ?_ ?_)
theorem Ul (o : Obj) : CL (Cp o) := by
 have := Dt (Vn o) o.links.length
 unfold Cp; repeat' (first | exact this | exact ⟨by decide, by decide⟩ | refine BX ?_ ?_)
theorem Tz (o : Obj) : CL (Ax o) := by
 have := Ul o
 unfold Ax; repeat' (first | exact this | exact ⟨by decide, by decide⟩ | refine BX ?_ ?_)
theorem Ql (o : Obj) (k : Nat) (kind : Int) : CL (Ba o k kind) := by unfold Ba; repeat' (first | exact ⟨by decide, by decide⟩ | refine BX ?_ ?_)
theorem SG (l : List Obj) (i : Nat) : CL (Cl l i) := by
 have h1 := Tz (obj l i)
 have h2 := Dt (fun k => Ql (obj l i) k (Az (l.take i) (Cm (obj l i).links k))) (obj l i).links.length
 unfold Cl; repeat' (first | exact h1 | exact h2 | exact ⟨by decide, by decide⟩ | refine BX ?_ ?_)
theorem KZ (l : List Obj) : CL (Ag l) := by
 have := Dt (SG l) l.length
 unfold Ag; repeat' (first | exact this | exact ⟨by decide, by decide⟩ | refine BX ?_ ?_)
theorem Qr (s : ByteArray) : CL (AQ s) := by unfold AQ; repeat' (first | exact ⟨by decide, by decide⟩ | refine BX ?_ ?_)
theorem NR (l : List Obj) (id : Int) : CL (AG l id) := by unfold AG; repeat' (first | exact ⟨by decide, by decide⟩ | refine BX ?_ ?_)
theorem Xg (l : List Rf) (objs : List Obj) (i : Nat) : CL (BN l objs i) := by
 have h1 := Qr (rf l i).name
 have h2 := NR objs (rf l i).id
 unfold BN; repeat' (first | exact h1 | exact h2 | exact ⟨by decide, by decide⟩ | refine BX ?_ ?_)
theorem VW (l : List Rf) (i k : Nat) : CL (Ex l i k) := by unfold Ex; repeat' (first | exact ⟨by decide, by decide⟩ | refine BX ?_ ?_)
theorem OW (l : List Rf) (objs : List Obj) : CL (AD l objs) := by
 have h1 := Dt (Xg l objs) l.length
 have h2 := Dt (fun i => Dt (VW l i) l.length) l.length
 unfold AD; repeat' (first | exact h1 | exact h2 | exact ⟨by decide, by decide⟩ | refine BX ?_ ?_)
theorem Vx (l : List Rf) (objs : List Obj) : CL (Aq l objs) := by
 unfold Aq; repeat' (first | exact KZ objs | exact OW l objs | exact ⟨by decide, by decide⟩ | refine BX ?_ ?_)
theorem Yd (l : List Mv) (i : Nat) : CL (DO l i) := by
 have h1 := Qr (mv l i).name
 unfold DO; repeat' (first | exact h1 | exact ⟨by decide, by decide⟩ | refine BX ?_ ?_)
theorem Xu (l : List Mv) : CL (AO l) := by
 have := Dt (Yd l) l.length
 unfold AO; repeat' (first | exact this | exact ⟨by decide, by decide⟩ | refine BX ?_ ?_)
theorem WF (l : List Rf) (objs : List Obj) (u : Mv) (f : Bool) : CL (Cq l objs u f) := by
 have := NR objs u.new
 unfold Cq; repeat' (first | exact this | exact ⟨by decide, by decide⟩ | refine BX ?_ ?_)
theorem TB (l : List Rf) (objs : List Obj) (us : List Mv) (f : Bool) : CL (Ca l objs us f) := by
 unfold Ca; repeat' (first | exact OW _ _ | exact Dt (fun k => WF _ _ _ _) _ | exact ⟨by decide, by decide⟩ | refine BX ?_ ?_)
theorem Uy (l : List Rf) (objs : List Obj) (us : List Mv) (f : Bool) : CL (CN l objs us f) := by
 unfold CN; repeat' (first | exact Vx _ _ | exact Xu _ | exact TB _ _ _ _ | exact ⟨by decide, by decide⟩ | refine BX ?_ ?_)
theorem Ug (l : List Obj) (o : Obj) : CL (Gr l o) := by unfold Gr; repeat' (first | exact ⟨by decide, by decide⟩ | refine BX ?_ ?_)
theorem WI (l more : List Obj) : CL (BY l more) := by
 have h1 := Dt (fun k => Ug (Ar l more k) (obj more k)) more.length
 have h2 := KZ (Ar l more more.length)
 unfold BY; repeat' (first | exact h1 | exact h2 | exact ⟨by decide, by decide⟩ | refine BX ?_ ?_)
theorem XI (l more : List Obj) : CL (Dx l more) := by
 have h1 := KZ l
 have h2 := Dt (fun k => Tz (obj more k)) more.length
 have h3 := WI l more
 unfold Dx; repeat' (first | exact h1 | exact h2 | exact h3 | exact ⟨by decide, by decide⟩ | refine BX ?_ ?_)
theorem HQ (r : An) (p : BJ) : CL (Bn r p) := by
 unfold Bn; repeat' (first | exact XI _ _ | exact Uy _ _ _ _ | exact ⟨by decide, by decide⟩ | refine BX ?_ ?_)
def YE : ByteArray := ⟨#[110, 111, 32]⟩
def MM : ByteArray := ⟨#[121, 101, 115, 32]⟩
def Cu (r : An) (p : BJ) : ByteArray := if Bn r p ≠ 0 then YE ++ AS (Bn r p) else MM ++ AS r.gen ++ WU ++ Fb p.updates
theorem Pd {n : Int} (h0 : 0 ≤ n) (h : n < 10) : AS n = ⟨#[UInt8.ofNat (48 + n.toNat)]⟩ := by
 unfold AS; rw [Lib.decDigits, dif_pos (by omega)]
theorem Mg {n : Int} (h : 10 ≤ n) : AS n = AS (n / 10) ++ AS (n % 10) := by
 apply MP
 unfold AS
 conv => lhs; rw [Lib.decDigits, dif_neg (by omega)]
 have e1 : (n / 10).toNat = n.toNat / 10 := by omega
 have e2 : (n % 10).toNat = n.toNat % 10 := by omega
 rw [e1, e2]
 conv => rhs; rw [show Lib.decDigits (n.toNat % 10) = [UInt8.ofNat (48 + n.toNat % 10)] by rw [Lib.decDigits, dif_pos (by omega)]]
 simp
theorem DP {n : Int} (h0 : 0 ≤ n) (h : n < 1000) : (AS n).size ≤ 12 := by
 have h1 : ∀ n : Int, 0 ≤ n → n < 10 → (AS n).size = 1 := fun n h0 h => by rw [Pd h0 h]; rfl
 have h2 : ∀ n : Int, 0 ≤ n → n < 100 → (AS n).size ≤ 2 := fun n h0 h => by
  by_cases h3 : n < 10
  ·rw [h1 n h0 h3]; omega
  ·rw [Mg (by omega), ByteArray.size_append, h1 (n / 10) (by omega) (by omega), h1 (n % 10) (by omega) (by omega)]; omega
 by_cases h3 : n < 100
 ·have := h2 n h0 h3; omega
 ·rw [Mg (by omega), ByteArray.size_append, h1 (n % 10) (by omega) (by omega)]
  have := h2 (n / 10) (by omega) (by omega); omega
theorem FJ (n : Int) (h0 : 0 ≤ n) (h : n < 10) (w : World) : Calls Tryz.prog 104 #[.int .i64 n] w fun e w' => e = .returned (.string (AS n)) ∧ w = w' := by
 have hd := Pd h0 h
 have h10 : n = 0 ∨ n = 1 ∨ n = 2 ∨ n = 3 ∨ n = 4 ∨ n = 5 ∨ n = 6 ∨ n = 7 ∨ n = 8 ∨ n = 9 := by omega
 have HD := zh hd
 clear hd
 rcases h10 with rfl | rfl | rfl | rfl | rfl | rfl | rfl | rfl | rfl | rfl
 all_goals
  clear h0 h
  go_enter Tryz.func104, Tryz.ntmps104
  go_wp2_with fail
  go_ret
  exact ⟨by rw [HD.out]; rfl, rfl⟩
theorem LP (n : Int) (h0 : 10 ≤ n) (h : n < 100) (w : World) : Calls Tryz.prog 104 #[.int .i64 n] w fun e w' => e = .returned (.string (AS n)) ∧ w = w' := by
 have HD := zh (Mg h0)
 have hd : decide (n < 10) = false := decide_eq_false (by omega)
 have hn : 0 ≤ n := by omega
 have h1 := zh (FJ (n / 10) (by omega) (by omega) w)
 have h2 := zh (FJ (n % 10) (by omega) (by omega) w)
 have hs1 := DP (n := n / 10) (by omega) (by omega)
 have hs2 := DP (n := n % 10) (by omega) (by omega)
 have hs3 : ¬ 9223372036854775807 < (AS (n / 10)).size + (AS (n % 10)).size := by omega
 go_enter Tryz.func104, Tryz.ntmps104
 go_wp2_with fail
 refine h1.out.mono ?_
 rintro e w' ⟨rfl, rfl⟩
 go_wp2_with fail
 refine h2.out.mono ?_
 rintro e w' ⟨rfl, rfl⟩
 go_wp2_with fail
 go_ret
 exact ⟨by rw [HD.out]; rfl, rfl⟩
theorem Rg (n : Int) (h0 : 100 ≤ n) (h : n < 1000) (w : World) : Calls Tryz.prog 104 #[.int .i64 n] w fun e w' => e = .returned (.string (AS n)) ∧ w = w' := by
 have HD := zh (Mg (n := n) (by omega))
 have hd : decide (n < 10) = false := decide_eq_false (by omega)
 have hn : 0 ≤ n := by omega
 have h1 := zh (LP (n / 10) (by omega) (by omega) w)
 have h2 := zh (FJ (n % 10) (by omega) (by omega) w)
 have hs1 := DP (n := n / 10) (by omega) (by omega)
 have hs2 := DP (n := n % 10) (by omega) (by omega)
 have hs3 : ¬ 9223372036854775807 < (AS (n / 10)).size + (AS (n % 10)).size := by omega
 go_enter Tryz.func104, Tryz.ntmps104
 go_wp2_with fail
 refine h1.out.mono ?_
 rintro e w' ⟨rfl, rfl⟩
 go_wp2_with fail
 refine h2.out.mono ?_
 rintro e w' ⟨rfl, rfl⟩
 go_wp2_with fail
 go_ret
 exact ⟨by rw [HD.out]; rfl, rfl⟩
theorem Ee (n : Int) (h0 : 0 ≤ n) (h : n < 1000) (w : World) : Calls Tryz.prog 104 #[.int .i64 n] w fun e w' => e = .returned (.string (AS n)) ∧ w = w' := by
 by_cases h1 : n < 10
 ·exact FJ n h0 h1 w
 ·by_cases h2 : n < 100
  ·exact LP n (by omega) h2 w
  ·exact Rg n (by omega) h w
theorem Gm {s : ByteArray} (h : AQ s = 0) : s.size ≤ 12 := by
 unfold AQ at h
 split at h
 ·cases h
 ·omega
theorem KM {u : Mv} (hn : u.name.size ≤ 12) (h1 : 0 ≤ u.old ∧ u.old ≤ 99) (h2 : 0 ≤ u.new ∧ u.new ≤ 99) : (EP u).size ≤ 39 := by
 unfold EP WU Fj
 have e1 := DP h1.1 (by omega : u.old < 1000)
 have e2 := DP h2.1 (by omega : u.new < 1000)
 simp only [ByteArray.size_append]
 show _ + 1 + _ + 1 + _ + 1 ≤ 39
 omega
theorem Lq {l : List Mv} (h : ED l) : ∀ k, k ≤ l.length → (Cd l k).1.size ≤ 39 * k
 | 0, _ => by show ByteArray.size ByteArray.empty ≤ _; simp
 | k + 1, hk => by
  obtain ⟨a, ha, _, e⟩ := Mo h (n := k) (by omega)
  have ih := Lq h k (by omega)
  have hm := Cs ha
  have := KM (Gm (h.name _ hm)) (h.old _ hm) (h.new _ hm)
  rw [e]
  show (_ ++ _ : ByteArray).size ≤ _
  rw [ByteArray.size_append]; omega
theorem St (l : List Mv) (v : Value) (S : Nat → Prop) (w : World) (h : AM S w v l) (hok : ED l) :
  Calls Tryz.prog 222 #[v] w fun e w' => e = .returned (.string (Fb l)) ∧ Below w.heap.size w w' := by
 obtain ⟨a, n, cap, HN, rfl, h1, h2, h3, h4⟩ := h.open
 have Hn := zh HN.out
 have HT := zh (show Fb l = (Cd l n).1 by rw [Hn.out]; rfl)
 have hP : ∀ k, k < n → ∃ a : Nat, a < n ∧ Il l (Cd l k).2 n = (a : Int) ∧ Cd l (k + 1) = ((Cd l k).1 ++ EP (mv l a), (mv l a).name) := fun k hk => by
  rw [Hn.out] at hk ⊢; exact Mo hok hk
 have HP := zh hP
 have HNu := zh (fun k (hk : k < n) => show (0 ≤ (mv l k).old ∧ (mv l k).old ≤ 99) ∧ (0 ≤ (mv l k).new ∧ (mv l k).new ≤ 99) by
  rw [Hn.out] at hk; exact ⟨hok.old _ (Cs hk), hok.new _ (Cs hk)⟩)
 have hn4 : n ≤ 4 := by rw [Hn.out]; exact hok.many
 have HS := zh (fun s k => Jf l s k)
 have HZs := zh (fun k (hk : k ≤ n) => Lq hok k (by rw [← Hn.out]; exact hk))
 have HZn := zh (fun k (hk : k < n) => Gm (hok.name _ (Cs (l := l) (i := k) (by rw [← Hn.out]; exact hk))))
 have HA := zh (fun s k => show Il l s (k + 1) = if Aw s (mv l k).name = true ∧ (Il l s k < 0 ∨ Aw (mv l k).name (mv l (Il l s k).toNat).name = true) then (k : Int) else Il l s k from rfl)
 clear h hok hP HN
 obtain ⟨R, hR, hR1, _⟩ := Ay w
 have hRb := hR.below
 have hRd := hR.drewN
 have hRg := BB hR
 go_enter Tryz.func222, Tryz.ntmps222
 go_wp2_with fail
 go_loopw [3, 4, 5] (fun s3 s4 i wr => ∃ (k : Nat) (s t : ByteArray), k ≤ n ∧ i = .int .i64 k ∧ s3 = .string s ∧ s4 = .string t ∧ Hid (Cd l k = (s, t)) ∧ In R wr) (fun _ _ i _ => n - (intOf i).toNat)
 case atStart => exact ⟨0, _, _, by omega, rfl, rfl, rfl, rfl, hR1⟩
 obtain ⟨k, s, t, hk, rfl, rfl, rfl, Hst, hRw⟩ := hrel
 clear hR1
 by_cases hlt : k < n
 case neg =>
  obtain rfl : k = n := by omega
  have HB := zh (hRb _ hRw)
  have HE := zh (show Fb l = s by rw [HT.out, Hst.out])
  go_wp2_with fail
  go_ret
  exact ⟨by rw [HE.out]; rfl, HB.out⟩
 obtain ⟨pk, hpk, hat, hnext⟩ := HP.out k hlt
 rw [Hst.out] at hat hnext
 have Hat := zh hat
 have Hnext := zh hnext
 clear hat hnext
 obtain ⟨b, off, rfl, hb, k0, k1, k2⟩ := h4 (by omega)
 go_wp2_with fail
 go_loopw [6, 7] (fun a i wx => ∃ (j : Nat) (z : Int), j ≤ n ∧ i = .int .i64 j ∧ a = .int .i64 z ∧ Hid (z = Il l t j) ∧ In R wx) (fun _ i _ => n - (intOf i).toNat)
 case atStart => exact ⟨0, -1, by omega, rfl, rfl, rfl, hRw⟩
 obtain ⟨j, z, hj, rfl, rfl, Hz, hRx⟩ := hrel
 clear hRw
 by_cases hjt : j < n
 case pos =>
  have x0 := fun x (hx : In R x) => k0 j x hjt (hRb _ hx)
  have hi1 : (0 : Int) ≤ (j : Int) := by omega
  have hi2 : (j : Int) < (n : Int) := by omega
  have Haj := zh (HA.out t j)
  rw [← Hz.out] at Haj
  have hsp := HS.out t j
  rw [← Hz.out] at hsp
  have Hs1 := zh (show Aw t (mv l j).name = Op.bytesLess t.toList (mv l j).name.toList from rfl)
  cases q1 : Op.bytesLess t.toList (mv l j).name.toList
  ·have HZ := zh (show z = Il l t (j + 1) by rw [Haj.out, if_neg (by rw [Hs1.out, q1]; simp)])
   clear hsp
   cases r1 : Op.bytesLess (mv l j).name.toList t.toList
   case' false => have r2 : (mv l j).name.toList = t.toList := by rw [Fq (a := (mv l j).name) (b := t) r1 q1]
   all_goals
    go_wp2_with fail
    go_quiet (fail)
    have hR2 := hRd _ nq hRx
    clear hRx k0 k1 k2 x0
    generalize wr.drewN nq = w2 at *
    go_wp2_with fail
    go_roundw
    case rel => exact ⟨j + 1, z, by omega, by go_num, rfl, HZ.out, hR2⟩
    case measure => simp [intOf]; omega
  ·have r1 : Op.bytesLess (mv l j).name.toList t.toList = false := EZ (a := t) (b := (mv l j).name) q1
   have r2 : ¬ (mv l j).name.toList = t.toList := fun e => by
    rw [e, show Op.bytesLess t.toList t.toList = false from BP t] at q1; cases q1
   have r3 : ((mv l j).name.toList == t.toList) = false := by simpa using r2
   rcases hsp with ⟨e, _⟩ | ⟨a, ha, e, _⟩
   ·subst e
    have HZ := zh (show (j : Int) = Il l t (j + 1) by rw [Haj.out, if_pos ⟨by rw [Hs1.out, q1], .inl (by omega)⟩])
    go_wp2_with fail
    refine wp_region_quiet_below (by kernel_rfl) (by kernel_rfl) ?_
    repeat (first | go_big_quiet_skip | quiet_step (fail))
    refine wpQuiet_nil ?_
    intro _ hw'
    obtain ⟨⟨dq, osq⟩, hw''⟩ := hw'
    subst hw''
    have hR2 := hRg _ dq osq hRx
    clear hRx k0 k1 k2 x0
    generalize Go.Sort.grow (redrawn _ dq) osq = w2 at *
    go_wp2_with fail
    go_roundw
    case rel => exact ⟨j + 1, j, by omega, by go_num, rfl, HZ.out, hR2⟩
    case measure => simp [intOf]; omega
   ·subst e
    have z0 := fun x (hx : In R x) => k0 a x (by omega) (hRb _ hx)
    have hz1 : (0 : Int) ≤ (a : Int) := by omega
    have hz2 : (a : Int) < (n : Int) := by omega
    have hz3 : decide ((a : Int) < 0) = false := decide_eq_false (by omega)
    have Hs2 := zh (show Aw (mv l j).name (mv l a).name = Op.bytesLess (mv l j).name.toList (mv l a).name.toList from rfl)
    cases q2 : Op.bytesLess (mv l j).name.toList (mv l a).name.toList
    ·have HZ := zh (show (a : Int) = Il l t (j + 1) by rw [Haj.out, if_neg (by rw [Int.toNat_natCast, Hs2.out, q2]; intro h; rcases h.2 with h | h; omega; cases h)])
     go_wp2_with fail
     refine wp_region_quiet_below (by kernel_rfl) (by kernel_rfl) ?_
     repeat (first | go_big_quiet_skip | quiet_step (fail))
     refine wpQuiet_nil ?_
     intro _ hw'
     obtain ⟨⟨dq, osq⟩, hw''⟩ := hw'
     subst hw''
     have hR2 := hRg _ dq osq hRx
     clear hRx k0 k1 k2 x0 z0
     generalize Go.Sort.grow (redrawn _ dq) osq = w2 at *
     go_wp2_with fail
     go_roundw
     case rel => exact ⟨j + 1, a, by omega, by go_num, rfl, HZ.out, hR2⟩
     case measure => simp [intOf]; omega
    ·have HZ := zh (show (j : Int) = Il l t (j + 1) by rw [Haj.out, if_pos ⟨by rw [Hs1.out, q1], .inr (by rw [Int.toNat_natCast, Hs2.out, q2])⟩])
     go_wp2_with fail
     refine wp_region_quiet_below (by kernel_rfl) (by kernel_rfl) ?_
     repeat (first | go_big_quiet_skip | quiet_step (fail))
     refine wpQuiet_nil ?_
     intro _ hw'
     obtain ⟨⟨dq, osq⟩, hw''⟩ := hw'
     subst hw''
     have hR2 := hRg _ dq osq hRx
     clear hRx k0 k1 k2 x0 z0
     generalize Go.Sort.grow (redrawn _ dq) osq = w2 at *
     go_wp2_with fail
     go_roundw
     case rel => exact ⟨j + 1, j, by omega, by go_num, rfl, HZ.out, hR2⟩
     case measure => simp [intOf]; omega
 obtain rfl : j = n := by omega
 have ez := Hz.out.trans Hat.out
 subst ez
 have x0 := fun x (hx : In R x) => k0 pk x hpk (hRb _ hx)
 have x1 := fun x (hx : In R x) => k1 pk x hpk (hRb _ hx)
 have x2 := fun x (hx : In R x) => k2 pk x hpk (hRb _ hx)
 have hi1 : (0 : Int) ≤ (pk : Int) := by omega
 have hi2 : (pk : Int) < (j : Int) := by omega
 have hnu := HNu.out pk hpk
 have HD1 := zh (fun x => Ee (mv l pk).old hnu.1.1 (by omega) x)
 have HD2 := zh (fun x => Ee (mv l pk).new hnu.2.1 (by omega) x)
 have x00 := x0 _ hRx
 have hs0 := HZs.out k (by omega)
 rw [Hst.out] at hs0
 have hs1 := HZn.out pk hpk
 have hs2 := DP hnu.1.1 (by omega : (mv l pk).old < 1000)
 have hs3 := DP hnu.2.1 (by omega : (mv l pk).new < 1000)
 simp only at hs0
 have n1 : ¬ 9223372036854775807 < (mv l pk).name.size + 1 := by omega
 have n2 : ¬ 9223372036854775807 < (mv l pk).name.size + 1 + (AS (mv l pk).old).size := by omega
 have n3 : ¬ 9223372036854775807 < (mv l pk).name.size + 1 + (AS (mv l pk).old).size + 1 := by omega
 have n4 : ¬ 9223372036854775807 < (mv l pk).name.size + 1 + (AS (mv l pk).old).size + 1 + (AS (mv l pk).new).size := by omega
 have n5 : ¬ 9223372036854775807 < (mv l pk).name.size + 1 + (AS (mv l pk).old).size + 1 + (AS (mv l pk).new).size + 1 := by omega
 have n6 : ¬ 9223372036854775807 < s.size + ((mv l pk).name.size + 1 + (AS (mv l pk).old).size + 1 + (AS (mv l pk).new).size + 1) := by omega
 clear hs0 hs1 hs2 hs3
 clear hnu k0 k1 k2 h4
 go_wp2_with fail
 go_quiet ((first | (go_at_call 104; with_reducible exact BM (HD1.out _)) | (go_at_call 104; with_reducible exact BM (HD2.out _))))
 have hR2 := hRd _ nq hRx
 clear hRx x0 x1 x2 x00
 generalize wr.drewN nq = w2 at *
 have HF := zh (show Cd l (k + 1) = (s ++ EP (mv l pk), (mv l pk).name) from Hnext.out)
 go_wp2_with fail
 go_roundw
 case rel => exact ⟨k + 1, _, _, by omega, by go_num, rfl, rfl, HF.out, hR2⟩
 case measure => simp [intOf]; omega
theorem Tryz.infoUpd : (Tryz.prog.info? 107).map (fun i => (i.zero, i.size, i.bytes)) = some (some (.agg #[.string ⟨#[]⟩, .int .i64 0, .int .i64 0]), 3, 32) := by kernel_rfl
def Yn (u : Mv) : Prop := DL u.old ∧ DL u.new ∧ u.name.size ≤ 140737488351232
def GG (B : Nat) (w : World) (v : Value) (l : List Mv) : Prop :=
 w.ownsRow B 107 3 v l.length (AN (fun i => Bo (mv l i)) l.length) ∧ ∀ r ∈ l, Yn r
theorem GG.nil (B : Nat) (w : World) : GG B w (.slice none 0 0) [] := ⟨World.ownsRow_nil _ _ _ _, fun r h => by cases h⟩
theorem GG.below {B : Nat} {w w' : World} {v : Value} {l : List Mv} (h : GG B w v l) (hb : Below w.heap.size w w') : GG B w' v l := ⟨DJ h.1 hb, h.2⟩
theorem GG.shape {B : Nat} {w : World} {v : Value} {l : List Mv} (h : GG B w v l) : ∃ a c, v = .slice a l.length c := KQ h.1
theorem GG.block {B : Nat} {w : World} {v : Value} {l : List Mv} (h : GG B w v l) {g : Nat} (hg : v.ownBlock = some g) : B ≤ g ∧ g < w.heap.size := h.1.lt g hg
theorem GG.mvs {B : Nat} {w : World} {v : Value} {l : List Mv} (h : GG B w v l) (hl : l.length * 32 ≤ 140737488351232) : AM (fun b => B ≤ b ∧ v.ownBlock = some b) w v l :=
 ⟨GN h.1 (fun g hg => ⟨(h.block hg).1, hg⟩) hl (fun i hi j u hu => CF (cs := fun i => Bo (mv l i)) (fun _ _ => rfl) i hi j u hu), h.2⟩
theorem WO (r : Mv) : ∀ u ∈ Bo r, u.oneCell' = true := by
 intro u hu
 simp only [Bo, List.mem_cons, List.not_mem_nil, or_false] at hu
 rcases hu with rfl | rfl | rfl <;> rfl
instance instInhabitedMv : Inhabited Mv := ⟨YH⟩
theorem Yt {l : List Mv} {i : Nat} (h : i < l.length) : l.toArray[i]! = mv l i := by
 rw [getElem!_pos _ i (by simpa using h), CW h]; simp
theorem own_holds {B g cap : Nat} {w : World} {l : List Mv} (h : GG B w (.slice (some ⟨g, 0, none⟩) l.length cap) l) : Go.Sort.HoldsK Bo 3 w g 0 l.toArray := by
 intro j hj
 have hj' : j < l.length * 3 := by simpa using hj
 have hc := h.1.cellAt j (by simpa using hj')
 have hf := h.1.frozenAt (g := g) j
 refine ⟨?_, by simpa using hf⟩
 have e := CF (cs := fun i => Bo (mv l i)) (sz := 3) (n := l.length) (fun _ _ => rfl) (j / 3) (by omega) (j % 3) ((Bo (mv l (j / 3)))[j % 3]'(by show j % 3 < 3; omega)) (List.getElem?_eq_getElem _)
 rw [show j / 3 * 3 + j % 3 = j by omega] at e
 rw [Nat.zero_add, hc, e, Go.Sort.get_flatK _ _ _ _ (by simpa using hj'), Yt (by omega)]
 rw [getElem!_pos (Bo (mv l (j / 3))) (j % 3) (by show j % 3 < 3; omega)]
 rfl
theorem Wg (w : World) (g m : Nat) (d : Array Mv) (os : Array Go.Obj) : Av (fun b => b = g) w (Go.Proofs.sortWorldK Bo 3 w g 0 m d os) := by
 refine ⟨rfl, rfl, rfl, by simp [Go.Proofs.sortWorldK, Go.Sort.putRowK, Go.Sort.ahead], fun b hb hn => ?_⟩
 show ((Go.Sort.putRowK Bo 3 (Go.Sort.ahead w m) g 0 d).heap ++ os)[b]? = _
 rw [Array.getElem?_append_left (by simpa [Go.Sort.putRowK] using hb)]
 show (w.heap.modify g _)[b]? = _
 rw [Array.getElem?_modify, if_neg (fun e => hn e.symm)]
theorem Sd {B g cap m : Nat} {w : World} {l : List Mv} {d : Array Mv} {os : Array Go.Obj} (h : GG B w (.slice (some ⟨g, 0, none⟩) l.length cap) l) (hl : l.length * 32 ≤ 140737488351232) (hd : d.size = l.length) (hok : ∀ u ∈ d.toList, Yn u) :
  AM (fun b => B ≤ b) (Go.Proofs.sortWorldK Bo 3 w g 0 m d os) (.slice (some ⟨g, 0, none⟩) l.length cap) d.toList := by
 have hb := h.block (g := g) rfl
 have hH := Go.Proofs.holdsK_sortWorldK_c Bo 3 w g 0 l.toArray d m os (own_holds h) hb.2 (by simpa using hd)
 have hlen : d.toList.length = l.length := by simpa using hd
 obtain ⟨⟨a, c, e, g1, g2, g3, _⟩, _⟩ := h.mvs hl
 cases e
 refine ⟨⟨_, _, by rw [hlen], by rw [hlen]; exact g1, g2, by rw [hlen]; exact g3, fun hn => ⟨g, 0, rfl, hb.1, fun i hi j u hu => ?_⟩⟩, hok⟩
 have hj : j < 3 := by
  rcases Nat.lt_or_ge j 3 with h | h
  ·exact h
  ·rw [List.getElem?_eq_none (by exact h)] at hu; cases hu
 rw [(hH.cell (i := i) (c := j) (by omega) hj).1]
 have e : d[i]! = mv d.toList i := by rw [getElem!_pos d i (by omega), CW hi]; simp
 rw [e, getElem!_pos _ j (by exact hj)]
 rw [List.getElem?_eq_getElem (by exact hj)] at hu
 exact hu
theorem Sn {l : List Mv} {d : Array Mv} (hp : Go.Sort.PermIn 0 l.toArray.size l.toArray d) (hs : Go.Sort.SortedIn (Go.Proofs.ltOf fun a b : Mv => IM a.name b.name) 0 l.toArray.size d) :
  d.size = l.length ∧ d.toList.Perm l ∧ d.toList.Pairwise fun a b => Aw b.name a.name = false := by
 have h1 : d.size = l.length := by simpa using hp.1
 refine ⟨h1, ?_, ?_⟩
 ·have h2 := hp.2.2
  have e1 : d.extract 0 l.toArray.size = d := by rw [show l.toArray.size = d.size by simpa using h1.symm]; simp
  rw [e1] at h2
  simpa using h2
 ·rw [List.pairwise_iff_getElem]
  intro i j hi hj hij
  have := hs i j (Nat.zero_le _) hij (by simpa [h1] using hj)
  rw [getElem!_pos d j (by simpa using hj), getElem!_pos d i (by simpa using hi)] at this
  unfold Go.Proofs.ltOf at this
  cases e : Aw d.toList[j].name d.toList[i].name
  ·rfl
  ·have h3 := (Me _ _).2 e
   simp only [Array.getElem_toList] at h3
   rw [decide_eq_true h3] at this; cases this
theorem YG : Go.Sort.SWO (Go.Proofs.ltOf fun a b : Mv => IM a.name b.name) := by
 have e : ∀ x y : Mv, Go.Proofs.ltOf (fun a b : Mv => IM a.name b.name) x y = Aw x.name y.name := fun x y => by
  unfold Go.Proofs.ltOf
  cases h : Aw x.name y.name
  ·exact decide_eq_false fun h2 => by rw [(Me _ _).1 h2] at h; cases h
  ·exact decide_eq_true ((Me _ _).2 h)
 refine ⟨fun x => ?_, fun x y z h1 h2 => ?_, fun x y z h1 h2 => ?_⟩
 ·rw [e]; exact BP _
 ·rw [e] at *; exact JO _ _ _ h1 h2
 ·rw [e] at *; exact Kk h1 h2
theorem Vf {S : Nat → Prop} {w : World} {a : Option Addr} {n cap : Nat} {l : List Mv} (h : AM S w (.slice a n cap) l) (hn : 0 < l.length) :
  ∃ ad, a = some ad ∧ ∀ j u, (AN (fun i => Bo (mv l i)) l.length)[j]? = some u → w.cell? (ad.add j) = some u := by
 obtain ⟨⟨a', cap', hv, h1, h2, h3, h4⟩, _⟩ := h
 cases hv
 obtain ⟨b, off, rfl, hb, hc⟩ := h4 hn
 refine ⟨_, rfl, fun j u hu => ?_⟩
 have hj : j < l.length * 3 := by
  rcases Nat.lt_or_ge j (l.length * 3) with h | h
  ·exact h
  ·rw [List.getElem?_eq_none (by rw [AU (sz := 3) fun _ _ => rfl]; exact h)] at hu; cases hu
 have hi' : j / 3 < l.length := by omega
 have hm : j % 3 < (Bo (mv l (j / 3))).length := by show j % 3 < 3; omega
 have e := CF (cs := fun i => Bo (mv l i)) (sz := 3) (n := l.length) (fun _ _ => rfl) (j / 3) hi' (j % 3) _ (List.getElem?_eq_getElem hm)
 rw [show j / 3 * 3 + j % 3 = j by omega, hu] at e
 have := hc (j / 3) hi' (j % 3) u (by show (Bo (mv l (j / 3)))[j % 3]? = some u; rw [List.getElem?_eq_getElem hm]; exact e.symm)
 rw [show (⟨b, off, none⟩ : Addr).add j = ⟨b, off + j, none⟩ by unfold Addr.add; split <;> simp_all]
 rw [show off + j = off + j / 3 * 3 + j % 3 by omega]; exact this
theorem Qt (l : List Mv) : ∀ u ∈ AN (fun i => Bo (mv l i)) l.length, u.oneCell' = true := Iy fun _ _ => WO _
theorem Od {B : Nat} {w : World} {v mv : Value} {l more : List Mv} {S : Nat → Prop} (ty : TypeId) (hG : GG B w v l) (h : AM S w mv more)
  (hl : (l.length + more.length) * 32 ≤ 140737488351232) (hB : B ≤ w.heap.size) :
  ∃ v' x, (Builtin.append_ #[24, 24] ty #[v, mv]).run Tryz.prog w = .ok v' x ∧ GG B x v' (l ++ more) ∧ Av (fun b => v.ownBlock = some b) w x := by
 obtain ⟨i0, hi, hz0, hz1, hz2⟩ := info_parts Tryz.infoUpd
 have hG' := hG
 obtain ⟨hown, hok⟩ := hG
 have h' := h
 obtain ⟨⟨a, cap, rfl, hc1, hc2, hc3, _⟩, hok2⟩ := h
 have hok3 : ∀ r ∈ l ++ more, Yn r := fun r hr => by
  rcases List.mem_append.1 hr with hr | hr
  ·exact hok r hr
  ·exact hok2 r hr
 by_cases h0 : more.length = 0
 ·obtain rfl : more = [] := List.length_eq_zero_iff.1 h0
  obtain ⟨base, sc, hv, hle⟩ : ∃ base sc, v = .slice base l.length sc ∧ l.length ≤ sc := by
   rcases hown.2 with ⟨rfl, hn⟩ | ⟨g, c, cur, rfl, _, _, hn, _⟩
   ·exact ⟨none, 0, by rw [hn], by omega⟩
   ·exact ⟨_, _, rfl, hn⟩
  subst hv
  refine ⟨_, w, run_append_nothing _ 24 24 ty 107 i0 Tryz.underlying24 hi base l.length sc hle _
   ⟨.inl ⟨_, Tryz.underlying24⟩, fun w' => by simp [Builtin.lenOf], by cases a <;> simp [Builtin.firstCells] <;> rfl, by cases a <;> simp [Builtin.firstCells] <;> rfl, by simp, by simp⟩, ?_, Av.refl _ _⟩
  rw [List.append_nil]; exact hG'
 ·obtain ⟨ad, rfl, hnews⟩ := Vf h' (by omega)
  obtain ⟨g, c, x, hr, ho, hg, hor, hlt⟩ := run_append_lies (P := Tryz.prog) w 24 ty B 107 i0 _ 3 32 Tryz.underlying24 hi hz0 hz1 hz2 rfl (by omega) v l.length _ hown ad more.length cap
   (AN (fun i => Bo (mv more i)) more.length) (AU fun _ _ => rfl) hnews (Qt _) (by omega) (by unfold maxLen; omega) (by omega) hB _ rfl
  refine ⟨_, x, hr, ⟨?_, hok3⟩, Av.grown (Av.refl _ _) hg (fun k hk _ => hk)⟩
  rw [List.length_append, Dc]
  have e1 : AN (fun i => Bo (mv (l ++ more) i)) l.length = AN (fun i => Bo (mv l i)) l.length :=
   AZ fun i hi => by
    have : mv (l ++ more) i = mv l i := by unfold mv at_; simp only [List.getD_eq_getElem?_getD, List.getElem?_append_left hi]
    rw [this]
  have e2 : AN (fun j => Bo (mv (l ++ more) (l.length + j))) more.length = AN (fun i => Bo (mv more i)) more.length :=
   AZ fun i hi => by
    have : mv (l ++ more) (l.length + i) = mv more i := by
     unfold mv at_; simp only [List.getD_eq_getElem?_getD]
     rw [List.getElem?_append_right (by omega), show l.length + i - l.length = i by omega]
    rw [this]
  rw [e1, e2]; exact ho
theorem Nh (w : World) : GG w.heap.size (w.alloc (.cells #[] 107)) (.slice (some ⟨w.heap.size, 0, none⟩) 0 0) [] :=
 ⟨World.ownsRow_made w #[] 0 (Nat.le_refl _) (Nat.zero_le _) (by simp), fun r h => by cases h⟩
theorem Ki (l : List Mv) (v : Value) (S : Nat → Prop) (w : World) (h : AM S w v l) :
  Calls Tryz.prog 142 #[v] w fun e w' => ∃ v', e = .returned v' ∧ GG w.heap.size w' v' l ∧ Below w.heap.size w w' := by
 have h' := h
 obtain ⟨a, n, cap, HN, rfl, h1, h2, h3, h4⟩ := h.open
 clear h4 h
 have q22 : ∀ (w : World) (a : Option Addr) (n c n' c' : Nat), (binOp .eql 24 (.slice a n c) (.slice none n' c')).run Tryz.prog w = .ok (.bool a.isNone) w := fun w a n c n' c' => Lib.run_eql_slice_nil w _ _ a n c n' c' Tryz.underlying24
 cases a with
 | none =>
  have hl0 : l = [] := by
   obtain ⟨⟨a, cap, e, _, _, _, h4⟩, _⟩ := h'
   cases e
   rcases Nat.eq_zero_or_pos l.length with h | h
   ·exact List.length_eq_zero_iff.1 h
   ·obtain ⟨b, off, e, _⟩ := h4 h; cases e
  subst hl0
  go_enter Tryz.func142, Tryz.ntmps142
  go_wp2_with fail
  go_ret
  exact ⟨_, rfl, GG.nil _ _, Below.refl _ _⟩
 | some ad =>
  have hB0 : Below w.heap.size w (w.alloc (.cells #[] 107)) := bal
  obtain ⟨v1, x1, hr1, ho1, hu1⟩ := Od (l := []) 24 (Nh w) (h'.below hB0) (by have := HN.out; simp; omega) hB0.size
  have hB1 : Below w.heap.size w x1 := hB0.trans (hu1.below (B := w.heap.size) hB0.size (fun b hb => ((Nh w).block hb).1))
  rw [List.nil_append] at ho1
  have HE := zh (And.intro ho1 hB1)
  obtain ⟨a1, c1, rfl⟩ := ho1.shape
  clear ho1 hB1 hu1 hB0 h'
  go_enter Tryz.func142, Tryz.ntmps142
  go_wp2_with (at_builtin; refine AX rfl (.tmp 5) (.tmp 6) 24 rfl _ _ _ rfl rfl hr1 ?_)
  go_ret
  exact ⟨_, rfl, HE.out.1, HE.out.2⟩
theorem AM.bytes {S : Nat → Prop} {w : World} {v : Value} {l : List Mv} (h : AM S w v l) : l.length * 32 ≤ 140737488351232 :=
 let ⟨⟨_, _, _, _, _, h3, _⟩, _⟩ := h; h3
end Go.Proofs.YtjdgpgfiomnjkaaGreatDoor
namespace Go.Proofs
open Go.Shelf
def Tryz.sortU_ren : Go.Shelf.Ren := ⟨fun | 6 => 126 | 15 => 154 | 14 => 182 | 28 => 209 | 29 => 210 | 20 => 226 | 21 => 227 | 22 => 228 | 23 => 229 | 24 => 230 | 25 => 231 | 26 => 232 | 27 => 233 | 46 => 256 | 47 => 242 | 48 => 243 | 49 => 257 | 50 => 258 | 57 => 270 | n => n, fun | 22 => 24 | 24 => 107 | 25 => 167 | 3 => 3 | 39 => 187 | 0 => 0 | 53 => 229 | 55 => 231 | 4 => 4 | 46 => 223 | 45 => 222 | 50 => 130 | 5 => 5 | 9 => 9 | 66 => 255 | 70 => 259 | 76 => 279 | 77 => 153 | n => n, fun | n => n⟩
theorem Tryz.sortU : Go.Proofs.SlLaysF0.n6 Tryz.prog Tryz.sortU_ren := {
 mixed := by kernel_rfl
 f6 := ⟨Tryz.f126.name, by decide, Tryz.func126.trans (congrArg some (by kernel_rfl))⟩
 f14 := ⟨Tryz.f182.name, by decide, Tryz.func182.trans (congrArg some (by kernel_rfl))⟩
 f15 := Tryz.func154.trans (congrArg some (by kernel_rfl))
 f20 := ⟨Tryz.f226.name, by decide, Tryz.func226.trans (congrArg some (by kernel_rfl))⟩
 f21 := ⟨Tryz.f227.name, by decide, Tryz.func227.trans (congrArg some (by kernel_rfl))⟩
 f22 := ⟨Tryz.f228.name, by decide, Tryz.func228.trans (congrArg some (by kernel_rfl))⟩
 f23 := ⟨Tryz.f229.name, by decide, Tryz.func229.trans (congrArg some (by kernel_rfl))⟩
 f24 := ⟨Tryz.f230.name, by decide, Tryz.func230.trans (congrArg some (by kernel_rfl))⟩
 f25 := ⟨Tryz.f231.name, by decide, Tryz.func231.trans (congrArg some (by kernel_rfl))⟩
 f26 := ⟨Tryz.f232.name, by decide, Tryz.func232.trans (congrArg some (by kernel_rfl))⟩
 f27 := ⟨Tryz.f233.name, by decide, Tryz.func233.trans (congrArg some (by kernel_rfl))⟩
 f28 := Tryz.func209.trans (congrArg some (by kernel_rfl))
 f29 := Tryz.func210.trans (congrArg some (by kernel_rfl))
 f46 := ⟨Tryz.f256.name, by decide, Tryz.func256.trans (congrArg some (by kernel_rfl))⟩
 f47 := Tryz.func242.trans (congrArg some (by kernel_rfl))
 f48 := Tryz.func243.trans (congrArg some (by kernel_rfl))
 f49 := ⟨Tryz.f257.name, by decide, Tryz.func257.trans (congrArg some (by kernel_rfl))⟩
 f50 := ⟨Tryz.f258.name, by decide, Tryz.func258.trans (congrArg some (by kernel_rfl))⟩
 f57 := ⟨Tryz.f270.name, by decide, Tryz.func270.trans (congrArg some (by kernel_rfl))⟩
 t0 := Tryz.underlying0
 a0 := Tryz.isAgg0
 z0 := Tryz.sizeOf0
 v0 := Tryz.zeroValue0
 t3 := Tryz.underlying3
 a3 := Tryz.isAgg3
 z3 := Tryz.sizeOf3
 v3 := Tryz.zeroValue3
 t4 := Tryz.underlying4
 a4 := Tryz.isAgg4
 z4 := Tryz.sizeOf4
 v4 := Tryz.zeroValue4
 t5 := Tryz.underlying5
 a5 := Tryz.isAgg5
 z5 := Tryz.sizeOf5
 v5 := Tryz.zeroValue5
 t9 := Tryz.underlying9
 a9 := Tryz.isAgg9
 z9 := Tryz.sizeOf9
 v9 := Tryz.zeroValue9
 t22 := Tryz.underlying24
 a22 := Tryz.isAgg24
 z22 := Tryz.sizeOf24
 v22 := Tryz.zeroValue24
 t25 := Tryz.underlying167
 a25 := Tryz.isAgg167
 z25 := Tryz.sizeOf167
 v25 := Tryz.zeroValue167
 t39 := Tryz.underlying187
 a39 := Tryz.isAgg187
 z39 := Tryz.sizeOf187
 v39 := Tryz.zeroValue187
 t45 := Tryz.underlying222
 a45 := Tryz.isAgg222
 z45 := Tryz.sizeOf222
 v45 := Tryz.zeroValue222
 t46 := Tryz.underlying223
 a46 := Tryz.isAgg223
 z46 := Tryz.sizeOf223
 v46 := Tryz.zeroValue223
 t50 := Tryz.underlying130
 a50 := Tryz.isAgg130
 z50 := Tryz.sizeOf130
 v50 := Tryz.zeroValue130
 t53 := Tryz.underlying229
 a53 := Tryz.isAgg229
 z53 := Tryz.sizeOf229
 v53 := Tryz.zeroValue229
 t55 := Tryz.underlying231
 a55 := Tryz.isAgg231
 z55 := Tryz.sizeOf231
 v55 := Tryz.zeroValue231
 t66 := Tryz.underlying255
 a66 := Tryz.isAgg255
 z66 := Tryz.sizeOf255
 v66 := Tryz.zeroValue255
 t70 := Tryz.underlying259
 a70 := Tryz.isAgg259
 z70 := Tryz.sizeOf259
 v70 := Tryz.zeroValue259
 t76 := Tryz.underlying279
 a76 := Tryz.isAgg279
 z76 := Tryz.sizeOf279
 v76 := Tryz.zeroValue279
 t77 := Tryz.underlying153
 a77 := Tryz.isAgg153
 z77 := Tryz.sizeOf153
 v77 := Tryz.zeroValue153 }
end Go.Proofs
