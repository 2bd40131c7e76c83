
/- RepP: the plain law of repairs. No program here. -/
import Derived.Test.YtjkbaallfkjmhaaGreatRepB
import Derived.Test.YtjkbaallfkjmhaaGreatRepC
import Derived.Test.YtjkbaallfkjmhaaGreatStoreLaw
import Derived.Test.YtjkbaallfkjmhaaGreatOnceP
namespace Go.Proofs.YtjkbaallfkjmhaaGreat
open Go.RowKit
set_option linter.unusedVariables false
set_option linter.unusedSimpArgs false

theorem raw_sub {l a : List Obj} (hs : ∀ x ∈ l, x ∈ a) (ha : Rising a) : rawE l a = 0 ∧ rawL l a = [] := by
  have h0 : rawE l a = 0 := rawE_zero.2 fun x hx _ => (ha.isAt_mem (hs x hx)).2
  refine ⟨h0, ?_⟩
  unfold rawL
  rw [if_pos h0]
  unfold missL
  rw [List.filter_eq_nil_iff]
  intro x hx
  unfold lacks
  rw [(ha.isAt_mem (hs x hx)).1]; simp
theorem with_nil {l : List Obj} (h : checkStore l = 0) : withE l [] = 0 ∧ withL l [] = l := by
  have h0 : withE l [] = 0 := by unfold withE; rw [if_pos (by rfl)]; exact h
  exact ⟨h0, by unfold withL; rw [if_pos h0]; rfl⟩
theorem with_ok {l more : List Obj} (h : withE l more = 0) : checkStore (withL l more) = 0 ∧ ∀ x, x ∈ withL l more ↔ x ∈ l ∨ x ∈ more := by
  have e : withL l more = joined l more more.length := by unfold withL; rw [if_pos h]
  unfold withE at h
  by_cases h2 : scan (joinErr l more) more.length = 0
  · rw [if_pos h2] at h
    rw [e]
    exact ⟨h, fun x => by rw [joined_mem (Nat.le_refl _) h2 x, List.take_length]⟩
  · rw [if_neg h2] at h; exact absurd h h2

/-- what a repair that goes well brings -/
structure Mended (n r a : Rep) : Prop where
  newer : repCheck n = 0
  older : repCheck r = 0
  refs : a.refs = n.refs
  gen : a.gen = n.gen
  phase : a.phase = 0
  pend : a.pend = psh0
  store : checkStore a.store = 0
  mem : ∀ x, x ∈ a.store ↔ x ∈ r.store ∨ x ∈ n.store
theorem mended {n r : Rep} (h : fromE n r = 0) : Mended n r (fromR n r) := by
  have hR : fromR n r = repairR n r := by unfold fromR; rw [if_pos h]
  unfold fromE at h
  split at h
  · rename_i h1; exact absurd h h1
  · rename_i h1
    split at h
    · rename_i h2; exact absurd h h2
    · rename_i h2
      have hn : repCheck n = 0 := by simpa using h1
      have hr : repCheck r = 0 := by simpa using h2
      have hR2 : repairR n r = ⟨withL r.store (rawL n.store r.store), n.refs, n.gen, 0, psh0⟩ := by unfold repairR; rw [if_pos h]
      unfold repairE at h
      split at h
      · cases h
      · split at h
        · rename_i h3; exact absurd h h3
        · rename_i h3
          have h4 : rawE n.store r.store = 0 := by simpa using h3
          obtain ⟨hc, hm⟩ := with_ok h
          rw [hR, hR2]
          refine ⟨hn, hr, rfl, rfl, rfl, rfl, hc, fun x => ?_⟩
          rw [hm]
          have hl : rawL n.store r.store = missL n.store r.store := by unfold rawL; rw [if_pos h4]
          rw [hl]
          constructor
          · rintro (hx | hx)
            · exact .inl hx
            · exact .inr (mem_miss.1 hx).1
          · rintro (hx | hx)
            · exact .inl hx
            · cases hi : isAt r.store x.id
              · exact .inr (mem_miss.2 ⟨hx, hi⟩)
              · left
                have := rawE_zero.1 h4 x hx hi
                rw [← this]
                exact obj_mem (isAt_spec hi).1

theorem kind_sub {l a : List Obj} (hs : ∀ x ∈ l, x ∈ a) (ha : Rising a) {id : Int} {k : Int} (h : kindOf l id = k) (hk : k ≠ 0) : kindOf a id = k := by
  obtain ⟨j, hj, he, hkj⟩ := kind_place (by rw [h]; exact hk)
  obtain ⟨i, hi, e⟩ := mem_obj (hs _ (obj_mem hj))
  have := ha.kind_self hi
  rw [e, he] at this
  rw [this, ← hkj, h]
theorem refs_sub {l : List Rf} {s a : List Obj} (hs : ∀ x ∈ s, x ∈ a) (ha : checkStore a = 0) (h : checkRefs l s = 0) : checkRefs l a = 0 := by
  have hs0 := (checkRefs_zero.1 h).1
  have h1 : rightErr l s = 0 := by unfold checkRefs at h; rw [if_neg (by simpa using hs0)] at h; exact h
  have e : ∀ i, i < l.length → refErr l s i = 0 → refErr l a i = 0 := fun i hi h0 => by
    rw [refErr_zero] at h0 ⊢
    exact ⟨h0.1, h0.2.1, kind_sub hs (checkStore_rising ha) h0.2.2 (by decide)⟩
  unfold checkRefs
  rw [if_neg (by simpa using ha)]
  unfold rightErr at h1 ⊢
  split at h1
  · cases h1
  · rename_i h8
    rw [if_neg h8]
    split at h1
    · rename_i h2; exact absurd h1 h2
    · rename_i h2
      have h3 : scan (refErr l s) l.length = 0 := by simpa using h2
      have h4 : scan (refErr l a) l.length = 0 := scan_of_zero fun i hi => e i hi (scan_zero h3 i hi)
      rw [if_neg (by simpa using h4)]; exact h1
theorem repCheck_of {r : Rep} (h : repCheck r = 0) : checkRefs r.refs r.store = 0 ∧ within r.gen 0 999 = true := by
  unfold repCheck at h
  split at h
  · rename_i h1; exact absurd h h1
  · rename_i h1
    refine ⟨by simpa using h1, ?_⟩
    split at h
    · cases h
    · rename_i h2; simpa using h2
theorem Mended.right {n r a : Rep} (h : Mended n r a) : repCheck a = 0 := by
  obtain ⟨h1, h2⟩ := repCheck_of h.newer
  unfold repCheck
  have hc : checkRefs a.refs a.store = 0 := by rw [h.refs]; exact refs_sub (fun x hx => (h.mem x).2 (.inr hx)) h.store h1
  rw [if_neg (by simpa using hc), h.gen, h2, h.phase, h.pend]
  simp [within, emptyB, psh0]
theorem Mended.again {n r a : Rep} (h : Mended n r a) : fromE n a = 0 ∧ fromR n a = a := by
  have hs : ∀ x ∈ n.store, x ∈ a.store := fun x hx => (h.mem x).2 (.inr hx)
  obtain ⟨e1, e2⟩ := raw_sub hs (checkStore_rising h.store)
  obtain ⟨e3, e4⟩ := with_nil h.store
  have hE : repairE n a = 0 := by
    unfold repairE
    rw [if_neg (by rw [h.gen]; omega), if_neg (by simpa using e1), e2]; exact e3
  have hR : repairR n a = a := by
    unfold repairR
    rw [if_pos hE, e2, e4, ← h.refs, ← h.gen, ← h.phase, ← h.pend]
  have h0 : fromE n a = 0 := by unfold fromE; rw [if_neg (by simpa using h.newer), if_neg (by simpa using h.right)]; exact hE
  exact ⟨h0, by unfold fromR; rw [if_pos h0]; exact hR⟩
theorem Mended.find {n r a : Rep} (h : Mended n r a) {x : Obj} (hx : x ∈ n.store ∨ x ∈ r.store) : findE a.store x.id = 0 ∧ findO a.store x.id = x :=
  find_there h.store ((h.mem x).2 hx.symm)
theorem fromR_not {n r : Rep} (h : fromE n r ≠ 0) : fromR n r = rep0 := by unfold fromR; rw [if_neg h]
theorem Mended.diff {n r a : Rep} (h : Mended n r a) {s : List Obj} (hc : checkStore s = 0) (hs : ∀ x ∈ s, x ∈ a.store) : diffE s a.store = 0 ∧ diffL s a.store = [] := by
  obtain ⟨e1, e2⟩ := raw_sub hs (checkStore_rising h.store)
  have h0 : diffE s a.store = 0 := by unfold diffE; rw [if_neg (by simpa using hc), if_neg (by simpa using h.store)]; exact e1
  refine ⟨h0, ?_⟩
  unfold diffL; rw [if_pos h0]
  unfold rawL at e2; rw [if_pos e1] at e2; exact e2
end Go.Proofs.YtjkbaallfkjmhaaGreat
