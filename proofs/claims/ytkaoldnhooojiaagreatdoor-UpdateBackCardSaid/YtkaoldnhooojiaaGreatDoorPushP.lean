
/- The plain law: a push tried twice. No program here. -/
import Derived.Test.YtkaoldnhooojiaaGreatDoorPushA
namespace Go.Proofs.YtkaoldnhooojiaaGreatDoor
open Go.RowKit
set_option linter.unusedVariables false
set_option linter.unusedSimpArgs false

theorem idOf_set {l : List Rf} (h : Asc l) (s : ByteArray) (id : Int) : idOf (setRf l s id) s = id := by
  rcases idOf_cases (set_asc h s id) s with ⟨e, hn⟩ | ⟨x, hx, hs, e⟩
  · by_cases h0 : id = 0
    · rw [e, h0]
    · exact absurd rfl (hn ⟨s, id⟩ (mem_set.2 (.inr ⟨h0, rfl⟩)))
  · rcases mem_set.1 hx with ⟨_, hne⟩ | ⟨_, rfl⟩
    · exact absurd hs hne
    · exact e
theorem idOf_set_ne {l : List Rf} (h : Asc l) {s t : ByteArray} (id : Int) (hne : t ≠ s) : idOf (setRf l s id) t = idOf l t := by
  rcases idOf_cases h t with ⟨e, hn⟩ | ⟨x, hx, hs, e⟩
  · rw [e, idOf_none]
    intro x hx
    rcases mem_set.1 hx with ⟨hx, _⟩ | ⟨_, rfl⟩
    · exact hn x hx
    · exact fun e => hne e.symm
  · rw [e]
    have := idOf_mem (set_asc h s id) (x := x) (mem_set.2 (.inl ⟨hx, by rw [hs]; exact hne⟩))
    rwa [hs] at this
theorem set_same {l : List Rf} (h : Asc l) {s : ByteArray} {id : Int} (h0 : id ≠ 0) (e : idOf l s = id) : setRf l s id = l := by
  refine asc_ext (set_asc h s id) h fun x => ?_
  rw [mem_set]
  rcases idOf_cases h s with ⟨e0, _⟩ | ⟨y, hy, hs, e1⟩
  · exact absurd (e.symm.trans e0) h0
  · have hyy : y = ⟨s, id⟩ := by
      cases y
      simp only at hs e1
      rw [hs, ← e1, e]
    constructor
    · rintro (⟨hx, _⟩ | ⟨_, rfl⟩)
      · exact hx
      · rw [← hyy]; exact hy
    · intro hx
      by_cases hn : x.name = s
      · exact .inr ⟨h0, by rw [← hyy]; exact asc_once h hx hy (by rw [hn, hs])⟩
      · exact .inl ⟨hx, hn⟩
theorem mv_ne {us : List Mv} (h : MvsOk us) {i j : Nat} (hij : i < j) (hj : j < us.length) : (mv us i).name ≠ (mv us j).name := by
  have := List.pairwise_iff_getElem.1 h.once i j (by omega) hj hij
  rwa [← mv_lt, ← mv_lt] at this
/-- a name that has been moved is there -/
theorem moved_id {l : List Rf} (h : Asc l) {us : List Mv} (hu : MvsOk us) {j : Nat} : ∀ i, j < i → i ≤ us.length → idOf (movedL l us i) (mv us j).name = (mv us j).new
  | 0, h1, _ => absurd h1 (by omega)
  | i + 1, h1, h2 => by
    show idOf (setRf (movedL l us i) (mv us i).name (mv us i).new) _ = _
    by_cases e : j = i
    · subst e; exact idOf_set (movedL_asc h us _) _ _
    · rw [idOf_set_ne (movedL_asc h us _) _ (mv_ne hu (by omega) (by omega))]
      exact moved_id h hu i (by omega) (by omega)
/-- and a name that has not, is where it was -/
theorem unmoved_id {l : List Rf} (h : Asc l) {us : List Mv} (hu : MvsOk us) {j : Nat} (hj : j < us.length) : ∀ i, i ≤ j → idOf (movedL l us i) (mv us j).name = idOf l (mv us j).name
  | 0, _ => rfl
  | i + 1, h1 => by
    show idOf (setRf (movedL l us i) (mv us i).name (mv us i).new) _ = _
    rw [idOf_set_ne (movedL_asc h us _) _ (fun e => mv_ne hu (i := i) (j := j) (by omega) hj e.symm)]
    exact unmoved_id h hu hj i (by omega)

theorem add_none {l : List Obj} (h : checkStore l = 0) : addE l [] = 0 ∧ addL l [] = l := by
  have hr := checkStore_rising h
  refine add_of ⟨h, by simp, (fun o ho => by cases ho), (fun x y hx hy e => ?_), h, (fun x => by simp)⟩
  have hx : x ∈ l := hx.elim id fun h => by cases h
  have hy : y ∈ l := hy.elim id fun h => by cases h
  have h1 := (hr.isAt_mem hx).2
  have h2 := (hr.isAt_mem hy).2
  rw [e] at h1
  exact h1.symm.trans h2

structure TryOk (r : Rep) (p : Psh) (L : List Obj) (M : List Rf) : Prop where
  add : addE r.store p.objects = 0
  whole : L = addL r.store p.objects
  moved : M = movedL r.refs p.updates p.updates.length
  mvs : MvsOk p.updates
  refs : checkRefs r.refs L = 0
  each : scan (movedErr r.refs L p.updates p.force) p.updates.length = 0
  right : rightErr M L = 0
theorem try_ok {r : Rep} {p : Psh} (h : tryE r p = 0) : TryOk r p (tryL r p) (tryM r p) := by
  have h' := h
  unfold tryE at h'
  by_cases ha : addE r.store p.objects = 0
  · rw [if_neg (by simp [ha])] at h'
    have h2 := h'
    unfold applyE at h2
    by_cases hc : checkRefs r.refs (addL r.store p.objects) = 0
    · rw [if_neg (by simp [hc])] at h2
      by_cases hm : checkMvs p.updates = 0
      · rw [if_neg (by simp [hm])] at h2
        have hL : tryL r p = addL r.store p.objects := by unfold tryL; rw [if_pos h]
        have hM : tryM r p = movedL r.refs p.updates p.updates.length := by unfold tryM applyR; rw [if_pos h, if_pos h']
        rw [hL, hM]
        unfold movedE at h2
        by_cases hs : scan (movedErr r.refs (addL r.store p.objects) p.updates p.force) p.updates.length = 0
        · rw [if_pos hs] at h2
          exact ⟨ha, rfl, rfl, mvs_ok.1 hm, hc, hs, h2⟩
        · rw [if_neg hs] at h2; exact absurd h2 hs
      · rw [if_pos hm] at h2; exact absurd h2 hm
    · rw [if_pos hc] at h2; exact absurd h2 hc
  · rw [if_pos ha] at h'; exact absurd h' ha
theorem try_of {r : Rep} {p : Psh} {L : List Obj} {M : List Rf} (h : TryOk r p L M) : tryE r p = 0 ∧ tryL r p = L ∧ tryM r p = M := by
  obtain ⟨ha, rfl, rfl, hm, hc, hs, hr⟩ := h
  have hA : applyE r.refs (addL r.store p.objects) p.updates p.force = 0 := by
    unfold applyE movedE
    rw [if_neg (by simp [hc]), if_neg (by simp [mvs_ok.2 hm]), if_pos hs, hr]
  have hE : tryE r p = 0 := by unfold tryE; rw [if_neg (by simp [ha]), hA]
  exact ⟨hE, by unfold tryL; rw [if_pos hE], by unfold tryM applyR; rw [if_pos hE, if_pos hA]⟩
theorem TryOk.store {r : Rep} {p : Psh} {L : List Obj} {M : List Rf} (h : TryOk r p L M) : checkStore L = 0 := (checkRefs_zero.1 h.refs).1

/-- the objects are there already: they need not come -/
theorem try_less {r : Rep} {p : Psh} {L : List Obj} {M : List Rf} (h : TryOk r p L M) : checkPsh ⟨[], p.updates, p.force⟩ = 0 ∧ TryOk ⟨L, r.refs, 0, 0, psh0⟩ ⟨[], p.updates, p.force⟩ L M := by
  have hn := add_none h.store
  refine ⟨?_, hn.1, hn.2.symm, h.moved, h.mvs, h.refs, h.each, h.right⟩
  unfold checkPsh
  rw [if_neg (by simp), if_neg (by simp [eachE, scan])]
  exact mvs_ok.2 h.mvs

def movesU (us : List Mv) : Bool := us.any fun u => u.old != u.new
/-- done, it is refused a second time -/
theorem try_twice {r : Rep} {p : Psh} {L : List Obj} {M : List Rf} (h : TryOk r p L M) (hm : movesU p.updates = true) : tryE ⟨L, M, 0, 0, psh0⟩ p = 4 := by
  have hasc : Asc r.refs := (checkRefs_zero.1 h.refs).2.asc
  have hM : RefsOk M L := rightErr_zero h.right
  have hagain := add_again h.add
  rw [← h.whole] at hagain
  have hz := scan_zero h.each
  have hid : ∀ j, j < p.updates.length → idOf M (mv p.updates j).name = (mv p.updates j).new := fun j hj => by
    rw [h.moved]; exact moved_id hasc h.mvs _ hj (Nat.le_refl _)
  -- the first that moves
  have hex : ∃ k, k < p.updates.length ∧ (mv p.updates k).old ≠ (mv p.updates k).new ∧ ∀ j, j < k → (mv p.updates j).old = (mv p.updates j).new := by
    unfold movesU at hm
    obtain ⟨u, hu, hne⟩ := List.any_eq_true.1 hm
    obtain ⟨i, hi, rfl⟩ := mem_mv hu
    have hi2 : (mv p.updates i).old ≠ (mv p.updates i).new := by simpa using hne
    clear hm hu hne
    induction i using Nat.strongRecOn with
    | ind i ih =>
      by_cases hall : ∀ j, j < i → (mv p.updates j).old = (mv p.updates j).new
      · exact ⟨i, hi, hi2, hall⟩
      · have ⟨j, hj⟩ := Classical.not_forall.1 hall
        have ⟨hj1, hj2⟩ := Classical.not_imp.1 hj
        exact ih j hj1 (by omega) hj2
  obtain ⟨k, hk, hne, hall⟩ := hex
  have hstay : ∀ j, j ≤ k → movedL M p.updates j = M := by
    intro j hj
    induction j with
    | zero => rfl
    | succ j ih =>
      show setRf (movedL M p.updates j) _ _ = M
      rw [ih (by omega)]
      have e := hall j (by omega)
      have hmv := h.mvs.moves _ (mv_mem (l := p.updates) (i := j) (by omega))
      exact set_same hM.asc (fun e0 => hmv ⟨by rw [e, e0], e0⟩) (hid j (by omega))
  have hbefore : scan (movedErr M L p.updates p.force) k = 0 := scan_of_zero fun j hj => by
    unfold movedErr
    rw [hstay j (by omega)]
    have h1 := moveErr_zero.1 (hz j (by omega))
    exact moveErr_zero.2 ⟨by rw [hid j (by omega), hall j hj], h1.2⟩
  have hat : movedErr M L p.updates p.force k = 4 := by
    unfold movedErr moveErr
    rw [hstay k (Nat.le_refl _), if_pos (by rw [hid k hk]; exact fun e => hne e.symm)]
  have hscan : scan (movedErr M L p.updates p.force) p.updates.length = 4 := by
    rw [scan_hit hbefore (by rw [hat]; decide) hk, hat]
  show tryE ⟨L, M, 0, 0, psh0⟩ p = 4
  unfold tryE
  simp only [hagain.1, hagain.2]
  rw [if_neg (by simp)]
  unfold applyE movedE
  rw [if_neg (by rw [checkRefs_zero.2 ⟨h.store, hM⟩]; simp), if_neg (by simp [mvs_ok.2 h.mvs]), hscan]
  rfl

def tryWE (r : Rep) (p : Psh) : Int := if checkPsh p = 0 then tryE r p else checkPsh p
def tryWL (r : Rep) (p : Psh) : List Obj := if checkPsh p = 0 then tryL r p else []
def tryWM (r : Rep) (p : Psh) : List Rf := if checkPsh p = 0 then tryM r p else []
theorem tryW_bad {r : Rep} {p : Psh} (h : tryWE r p ≠ 0) : tryWL r p = [] ∧ tryWM r p = [] := by
  unfold tryWE at h
  unfold tryWL tryWM
  by_cases hp : checkPsh p = 0
  · rw [if_pos hp] at h
    rw [if_pos hp, if_pos hp]
    exact ⟨by unfold tryL; rw [if_neg h], by unfold tryM; rw [if_neg h]⟩
  · rw [if_neg hp, if_neg hp]; exact ⟨rfl, rfl⟩
theorem tryW_ok {r : Rep} {p : Psh} (h : tryWE r p = 0) : checkPsh p = 0 ∧ TryOk r p (tryWL r p) (tryWM r p) := by
  unfold tryWE at h
  unfold tryWL tryWM
  by_cases hp : checkPsh p = 0
  · rw [if_pos hp] at h
    rw [if_pos hp, if_pos hp]
    exact ⟨hp, try_ok h⟩
  · rw [if_neg hp] at h; exact absurd h hp
theorem tryW_of {r : Rep} {p : Psh} {L : List Obj} {M : List Rf} (hp : checkPsh p = 0) (h : TryOk r p L M) : tryWE r p = 0 ∧ tryWL r p = L ∧ tryWM r p = M := by
  unfold tryWE tryWL tryWM
  rw [if_pos hp, if_pos hp, if_pos hp]
  exact try_of h

def movesTo (us : List Mv) (i : Nat) : Bool := movesU (us.take i)
theorem movesTo_next {us : List Mv} {i : Nat} (h : i < us.length) : movesTo us (i + 1) = (movesTo us i || ((mv us i).old != (mv us i).new)) := by
  unfold movesTo movesU
  rw [List.take_succ_eq_append_getElem h, List.any_append, ← mv_lt h]
  simp
theorem movesTo_all (us : List Mv) : movesTo us us.length = movesU us := by unfold movesTo; rw [List.take_length]
end Go.Proofs.YtkaoldnhooojiaaGreatDoor
