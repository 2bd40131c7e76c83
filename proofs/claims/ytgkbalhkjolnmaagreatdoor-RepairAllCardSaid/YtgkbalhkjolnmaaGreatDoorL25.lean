
/- AllP: the plain law of repairs of a whole cluster: behind it all have the same refs, and all that they reach. No program here. -/
import Derived.Test.YtgkbalhkjolnmaaGreatDoorL23
import Derived.Test.YtgkbalhkjolnmaaGreatDoorL24
import Derived.Test.YtgkbalhkjolnmaaGreatDoorL16
import Derived.Test.YtgkbalhkjolnmaaGreatDoorL4
import Derived.Test.YtgkbalhkjolnmaaGreatDoorL2
import Derived.Test.YtgkbalhkjolnmaaGreatDoorL0
namespace Go.Proofs.YtgkbalhkjolnmaaGreatDoor
open Go.RowKit
set_option linter.unusedVariables false
set_option linter.unusedSimpArgs false
theorem edge_of {l : List Obj} {par : Bool} {i j : Nat} (e : edgeB l par i j = true) : j < l.length ∧ ∃ k, k < (obj l i).links.length ∧ nth (obj l i).links k = (obj l j).id := by
 simp only [edgeB, Bool.and_eq_true, decide_eq_true_eq, List.any_eq_true, beq_iff_eq] at e
 obtain ⟨hj, x, hx, hxe⟩ := e
 obtain ⟨k, hk, rfl, _⟩ := follow_mem hx
 exact ⟨hj, k, hk, hxe⟩
theorem rch_up {s a : List Obj} (hs : Right s) (ha : Right a) (hm : ∀ x ∈ s, x ∈ a) {i j : Nat} (h : Rch s false i j) (hi : i < s.length) : ∀ m, m < a.length → obj a m = obj s i → ∃ n, n < a.length ∧ obj a n = obj s j ∧ Rch a false m n := by
 induction h with
 | refl => intro m hm e; exact ⟨m, hm, e, .refl _⟩
 | @step i b c e _ ih =>
  intro m hml em
  obtain ⟨hb, k, hk, hid⟩ := edge_of e
  obtain ⟨n, hn, en⟩ := mem_obj (hm _ (obj_mem hb))
  obtain ⟨n2, hn2, en2, hr⟩ := ih hb n hn en
  exact ⟨n2, hn2, en2, .step (link_edge (by rw [em]; exact hk) hn (by rw [en, em]; exact hid.symm)) hr⟩
theorem rch_down {s a : List Obj} (hs : Right s) (ha : Right a) (hm : ∀ x ∈ s, x ∈ a) {m n : Nat} (h : Rch a false m n) (hml : m < a.length) : ∀ i, i < s.length → obj s i = obj a m → ∃ j, j < s.length ∧ obj s j = obj a n ∧ Rch s false i j := by
 induction h with
 | refl => intro i hi e; exact ⟨i, hi, e, .refl _⟩
 | @step m b c e _ ih =>
  intro i hi ei
  obtain ⟨hb, k, hk, hid⟩ := edge_of e
  rw [← ei] at hk hid
  obtain ⟨j, hj, hjd, _⟩ := hs.linked hi hk
  have hjs : j < s.length := by omega
  obtain ⟨q, hq, eq⟩ := mem_obj (hm _ (obj_mem hjs))
  have hqb : q = b := ha.rising.inj hq hb (by rw [eq, hjd, hid])
  subst hqb
  obtain ⟨j2, hj2, e2, hr⟩ := ih hq j hjs eq.symm
  exact ⟨j2, hj2, e2, .step (link_edge hk hjs hjd) hr⟩
theorem part_sub {s a : List Obj} {tips : List Int} (hs : Right s) (ha : Right a) (hm : ∀ x ∈ s, x ∈ a) (ht : ∀ t ∈ tips, kindOf s t ≠ 0) : partOf a tips = partOf s tips := by
 refine (part_rising ha.rising).ext (part_rising hs.rising) fun x => ⟨fun hx => ?_, fun hx => ?_⟩
 ·obtain ⟨n, hn, hr, rfl⟩ := mem_part.1 hx
  obtain ⟨m, hml, htip, hp⟩ := (reach_iff ha hn).1 hr
  have ht2 := htip
  unfold tipB at ht2
  rw [List.any_eq_true] at ht2
  obtain ⟨t, htm, e⟩ := ht2
  have e2 : t = (obj a m).id := by simpa using e
  obtain ⟨i, hi, hid, _⟩ := kind_place (ht t htm)
  obtain ⟨q, hq, eq⟩ := mem_obj (hm _ (obj_mem hi))
  have hqm : q = m := ha.rising.inj hq hml (by rw [eq, hid, e2])
  subst hqm
  obtain ⟨j, hj, ej, hr2⟩ := rch_down hs ha hm hp hq i hi eq.symm
  rw [← ej]
  refine mem_part.2 ⟨j, hj, (reach_iff hs hj).2 ⟨i, hi, ?_, hr2⟩, rfl⟩
  unfold tipB at htip ⊢
  rw [eq] at htip; exact htip
 ·obtain ⟨j, hj, hr, rfl⟩ := mem_part.1 hx
  obtain ⟨i, hi, htip, hp⟩ := (reach_iff hs hj).1 hr
  obtain ⟨m, hml, em⟩ := mem_obj (hm _ (obj_mem hi))
  obtain ⟨n, hn, en, hr2⟩ := rch_up hs ha hm hp hi m hml em
  rw [← en]
  refine mem_part.2 ⟨n, hn, (reach_iff ha hn).2 ⟨m, hml, ?_, hr2⟩, rfl⟩
  unfold tipB at htip ⊢
  rw [em]; exact htip
theorem best_first {l : List Rep} {g : Int} : ∀ k, 0 < k → (∀ i, i < k → (rep l i).gen = g) → (bestTo l k).1 = 0
 | 0, h, _ => by omega
 | 1, _, _ => by unfold bestTo; rw [if_pos (.inl rfl)]
 | k + 2, _, h => by
  have ih := best_first (k + 1) (by omega) (fun i hi => h i (by omega))
  unfold bestTo
  rw [ih, h 0 (by omega), h (k + 1) (by omega), if_neg (by simp), if_pos rfl]
def tipsOf (l : List Rf) : List Int := l.map (·.id)
theorem tip_mem {l : List Rf} {t : Int} (h : t ∈ tipsOf l) : ∃ i, i < l.length ∧ (rf l i).id = t := by
 obtain ⟨x, hx, rfl⟩ := List.mem_map.1 h
 obtain ⟨i, hi, rfl⟩ := List.getElem_of_mem hx
 exact ⟨i, hi, by rw [show rf l i = l[i] from at_lt hi]⟩
theorem tips_kind {l : List Rf} {s : List Obj} (h : checkRefs l s = 0) : ∀ t ∈ tipsOf l, kindOf s t ≠ 0 := by
 intro t ht
 obtain ⟨i, hi, rfl⟩ := tip_mem ht
 have h0 := (checkRefs_zero.1 h).1
 have h1 : rightErr l s = 0 := by unfold checkRefs at h; rw [if_neg (by simpa using h0)] at h; exact h
 unfold rightErr at h1
 split at h1
 ·cases h1
 ·split at h1
  ·rename_i h2; exact absurd h1 h2
  ·rename_i h2
   have h3 : scan (refErr l s) l.length = 0 := by simpa using h2
   have := (refErr_zero.1 (scan_zero h3 i hi)).2.2
   rw [this]; decide
theorem tips_there0 {r : Rep} (h : repCheck r = 0) : thereErr r.store (tipsOf r.refs) = 0 := by
 obtain ⟨h1, _⟩ := repCheck_of h
 exact there_of (checkRefs_zero.1 h1).1 (tips_kind h1)
theorem mendTo_at (l : List Rep) (b : Nat) : ∀ k j, k ≤ l.length → j < k → rep (mendTo l b k) j = if (rep l j).gen = (rep l b).gen then rep l j else repairR (rep l b) (rep l j)
 | 0, _, _, h => by omega
 | k + 1, j, hk, hj => by
  unfold mendTo
  by_cases e : j = k
  ·subst e
   by_cases hg : (rep l j).gen = (rep l b).gen
   ·rw [if_pos hg, if_pos hg]; exact mendTo_ge l b j j (Nat.le_refl _) (by omega)
   ·rw [if_neg hg, if_neg hg, rep_set (by rw [mendTo_length]; omega), if_pos rfl]
  ·have ih := mendTo_at l b k j (by omega) (by omega)
   by_cases hg : (rep l k).gen = (rep l b).gen
   ·rw [if_pos hg]; exact ih
   ·rw [if_neg hg, rep_set (by rw [mendTo_length]; omega), if_neg e]; exact ih
theorem mendTo_none {l : List Rep} {b : Nat} : ∀ k, (∀ i, i < k → (rep l i).gen = (rep l b).gen) → mendTo l b k = l ∧ mendN l b k = 0 ∧ scan (mendErr l b) k = 0
 | 0, _ => ⟨rfl, rfl, rfl⟩
 | k + 1, h => by
  obtain ⟨h1, h2, h3⟩ := mendTo_none k (fun i hi => h i (by omega))
  have hk := h k (by omega)
  refine ⟨?_, ?_, scan_next h3 (by unfold mendErr; rw [if_pos hk])⟩
  ·unfold mendTo; rw [if_pos hk, h1]
  ·unfold mendN; rw [if_pos hk, h2]
structure AllMended (l a : List Rep) : Prop where
 len : l.length = 3
 right : RightC a
 clu : cluE a = 0
 first : best a = 0
 gen : ∀ i, i < 3 → (rep a i).gen = (rep a 0).gen
 refs : ∀ i, i < 3 → (rep a i).refs = (rep a 0).refs
 again : allE a = 0 ∧ allL a = a ∧ allN a = 0
 each : ∀ i, i < 3 → repCheck (rep a i) = 0
 there : ∀ i, i < 3 → thereErr (rep a i).store (tipsOf (rep a 0).refs) = 0
 part : ∀ i, i < 3 → (rep l i).gen < (rep a 0).gen → partOf (rep a i).store (tipsOf (rep a 0).refs) = partOf (rep a 0).store (tipsOf (rep a 0).refs)
theorem allMended {l : List Rep} (h : allE l = 0) : AllMended l (allL l) ∧ cluE l = 0 := by
 have hc : cluE l = 0 := by unfold allE at h; split at h; exact absurd h (by assumption); rename_i h1; simpa using h1
 refine ⟨?_, hc⟩
 have hR := clu_right.1 hc
 have hl := hR.len
 have hs : scan (mendErr l (best l)) 3 = 0 := by unfold allE at h; rw [if_neg (by simpa using hc), hl] at h; exact h
 have ha : allL l = mendTo l (best l) 3 := by unfold allL; rw [if_pos h, hl]
 have hb3 : best l < 3 := by have := best_lt (l := l) (by omega); omega
 have hmx : ∀ k, k < 3 → (rep l k).gen ≤ (rep l (best l)).gen := fun k hk => (best_inv l l.length).1 k (by omega)
 have hbf : (rep l 0).gen = (rep l (best l)).gen → best l = 0 := fun e => by
  have key : ∀ k, 0 < k → k ≤ 3 → (bestTo l k).1 = 0 := by
   intro k
   induction k with
   | zero => intro h; omega
   | succ k ih =>
    intro _ hk
    unfold bestTo
    by_cases h0 : k = 0
    ·subst h0; rw [if_pos (.inl rfl)]
    ·have i0 := ih (by omega) (by omega)
     rw [i0, if_neg (by have := hmx k (by omega); rintro (h | h) <;> omega)]
     split
     ·rfl
     ·exact i0
  have := key 3 (by omega) (by omega)
  unfold best; rw [hl]; exact this
 generalize hbb : best l = b at *
 have hat : ∀ j, j < 3 → rep (allL l) j = if (rep l j).gen = (rep l b).gen then rep l j else repairR (rep l b) (rep l j) := fun j hj => by rw [ha]; exact mendTo_at l b 3 j (by omega) hj
 have hmd : ∀ j, j < 3 → (rep l j).gen ≠ (rep l b).gen → Mended (rep l b) (rep l j) (rep (allL l) j) := fun j hj hg => by
  have e0 : repairE (rep l b) (rep l j) = 0 := by
   have := scan_zero hs j hj
   unfold mendErr at this
   rw [if_neg hg] at this; exact this
  have e1 : fromE (rep l b) (rep l j) = 0 := by
   unfold fromE
   rw [if_neg (by have := rep_right.2 (hR.each b hb3); simpa using this), if_neg (by have := rep_right.2 (hR.each j hj); simpa using this)]; exact e0
  have hm := mended e1
  have e2 : fromR (rep l b) (rep l j) = repairR (rep l b) (rep l j) := by unfold fromR; rw [if_pos e1]
  rw [hat j hj, if_neg hg, ← e2]; exact hm
 have hlen : (allL l).length = 3 := by rw [ha, mendTo_length]; exact hl
 have hgen : ∀ j, j < 3 → (rep (allL l) j).gen = (rep l b).gen := fun j hj => by
  by_cases hg : (rep l j).gen = (rep l b).gen
  ·rw [hat j hj, if_pos hg]; exact hg
  ·exact (hmd j hj hg).gen
 have hrefs : ∀ j, j < 3 → (rep (allL l) j).refs = (rep l b).refs := fun j hj => by
  by_cases hg : (rep l j).gen = (rep l b).gen
  ·rw [hat j hj, if_pos hg]; exact hR.refs j b hj hb3 hg
  ·exact (hmd j hj hg).refs
 have hchk : ∀ j, j < 3 → repCheck (rep (allL l) j) = 0 := fun j hj => by
  by_cases hg : (rep l j).gen = (rep l b).gen
  ·rw [hat j hj, if_pos hg]; exact rep_right.2 (hR.each j hj)
  ·exact (hmd j hj hg).right
 have hR2 : RightC (allL l) := ⟨hlen, fun j hj => rep_right.1 (hchk j hj), fun i j hi hj _ => by rw [hrefs i hi, hrefs j hj], ⟨0, 1, by omega, by omega, by rw [hgen 0 (by omega), hgen 1 (by omega)], fun k hk => by rw [hgen k hk, hgen 0 (by omega)]; exact Int.le_refl _⟩⟩
 have hf : best (allL l) = 0 := by unfold best; rw [hlen]; exact best_first 3 (by omega) (fun i hi => hgen i hi)
 have hc2 := clu_right.2 hR2
 have hno := mendTo_none (l := allL l) (b := 0) 3 (fun i hi => by rw [hgen i hi, hgen 0 (by omega)])
 have hae : allE (allL l) = 0 := by unfold allE; rw [if_neg (by simpa using hc2), hlen, hf]; exact hno.2.2
 have hth : ∀ j, j < 3 → thereErr (rep (allL l) j).store (tipsOf (rep l b).refs) = 0 := fun j hj => by rw [← hrefs j hj]; exact tips_there0 (hchk j hj)
 have hpt : ∀ j, j < 3 → ((rep l j).gen ≠ (rep l b).gen ∨ j = b) → partOf (rep (allL l) j).store (tipsOf (rep l b).refs) = partOf (rep l b).store (tipsOf (rep l b).refs) := fun j hj hor => by
  by_cases hg : (rep l j).gen = (rep l b).gen
  ·have : j = b := hor.resolve_left (fun h => h hg)
   subst this
   rw [hat j hj, if_pos rfl]
  ·have hm := hmd j hj hg
   exact part_sub (right_of (checkRefs_zero.1 (repCheck_of hm.newer).1).1) (right_of hm.store) (fun x hx => (hm.mem x).2 (.inr hx)) (tips_kind (repCheck_of hm.newer).1)
 refine ⟨hl, hR2, hc2, hf, fun i hi => by rw [hgen i hi, hgen 0 (by omega)], fun i hi => by rw [hrefs i hi, hrefs 0 (by omega)], ⟨hae, ?_, ?_⟩, hchk, fun i hi => by rw [hrefs 0 (by omega)]; exact hth i hi, fun i hi hlt => ?_⟩
 ·have e : allL (allL l) = mendTo (allL l) (best (allL l)) (allL l).length := by rw [show allL (allL l) = if allE (allL l) = 0 then mendTo (allL l) (best (allL l)) (allL l).length else [] from rfl, if_pos hae]
  rw [e, hf, hlen]; exact hno.1
 ·unfold allN; rw [if_pos hae, hf, hlen]; exact hno.2.1
 ·rw [hgen 0 (by omega)] at hlt
  rw [hrefs 0 (by omega), hpt i hi (.inl (by omega)), hpt 0 (by omega)]
  by_cases hg : (rep l 0).gen = (rep l b).gen
  ·exact .inr (hbf hg).symm
  ·exact .inl hg
end Go.Proofs.YtgkbalhkjolnmaaGreatDoor
namespace Go.Proofs.YtgkbalhkjolnmaaGreatDoor
open Go.RowKit
set_option linter.unusedVariables false
set_option linter.unusedSimpArgs false
theorem RefsV.take {S : Nat → Prop} {w : World} {a : Option Addr} {n cap : Nat} {l : List Rf} (h : RefsV S w (.slice a n cap) l) {i : Nat} (hi : i ≤ l.length) : RefsV S w (.slice a i cap) (l.take i) := by
 obtain ⟨⟨a', cap', hv, h1, h2, h3, h4⟩, h5⟩ := h
 cases hv
 have hl : (l.take i).length = i := by simp; omega
 refine ⟨⟨a, cap, by rw [hl], by omega, h2, by omega, fun hp => ?_⟩, fun r hr => h5 r (List.mem_of_mem_take hr)⟩
 rw [hl] at hp
 obtain ⟨b, off, ha, hS, hc⟩ := h4 (by omega)
 refine ⟨b, off, ha, hS, fun j hj m u hu => hc j (by omega) m u ?_⟩
 have e : rf (l.take i) j = rf l j := by unfold rf at_; simp only [List.getD_eq_getElem?_getD, List.getElem?_take, show j < i by omega, if_true]
 have hu' : [Value.string (rf (l.take i) j).name, .int .i64 (rf (l.take i) j).id][m]? = some u := hu
 rw [e] at hu'; exact hu'
theorem RefsV.drop {S : Nat → Prop} {w : World} {b off n cap : Nat} {l : List Rf} (h : RefsV S w (.slice (some ⟨b, off, none⟩) n cap) l) {i : Nat} (hi : i ≤ l.length) : RefsV S w (.slice (some ⟨b, off + i * 2, none⟩) (n - i) (cap - i)) (l.drop i) := by
 obtain ⟨⟨a', cap', hv, h1, h2, h3, h4⟩, h5⟩ := h
 cases hv
 have hl : (l.drop i).length = l.length - i := by simp
 refine ⟨⟨_, cap - i, by rw [hl], by omega, by omega, by omega, fun hp => ?_⟩, fun r hr => h5 r (List.mem_of_mem_drop hr)⟩
 rw [hl] at hp
 obtain ⟨b', off', ha, hS, hc⟩ := h4 (by omega)
 cases ha
 refine ⟨b, off + i * 2, rfl, hS, fun j hj m u hu => ?_⟩
 have e : rf (l.drop i) j = rf l (i + j) := by unfold rf at_; simp only [List.getD_eq_getElem?_getD, List.getElem?_drop]
 have hu' : [Value.string (rf (l.drop i) j).name, .int .i64 (rf (l.drop i) j).id][m]? = some u := hu
 rw [e] at hu'
 have := hc (i + j) (by omega) m u hu'
 rw [show off + i * 2 + j * 2 + m = off + (i + j) * 2 + m by omega]; exact this
end Go.Proofs.YtgkbalhkjolnmaaGreatDoor
