
/- VoteG: texts are appended to an empty row of the call's own; the plain law of votes of one push. -/
import Derived.Test.YtdhoodloklgokaaGreatDoorVoteF
import Derived.Test.YtdhoodloklgokaaGreatDoorUpdL
namespace Go.Proofs.YtdhoodloklgokaaGreatDoor
open Go.RowKit
set_option linter.unusedVariables false
set_option linter.unusedSimpArgs false

/-- a fact on worlds as a class, which the walk does not open -/
theorem as_class (p : World → Prop) {x : World} (h : p x) : ∃ C : World → Prop, In C x ∧ (∀ z, In C z → p z) ∧ (∀ z, p z → In C z) := ⟨p, h, fun _ h => h, fun _ h => h⟩
theorem Tryz.infoStr : (Tryz.prog.info? 9).map (fun i => (i.zero, i.size, i.bytes)) = some (some (.string ⟨#[]⟩), 1, 16) := by kernel_rfl
theorem clone_strs {w : World} {l : List ByteArray} {lv : Value} {S : Nat → Prop} (ty : TypeId) (hy : StrsV S w lv l) (hp : 0 < l.length) :
    ∃ g c x, (Builtin.append_ #[64, 64] ty #[.slice (some ⟨w.heap.size, 0, none⟩) 0 0, lv]).run Tryz.prog (w.alloc (.cells #[] 9)) = .ok (.slice (some ⟨g, 0, none⟩) l.length c) x ∧
      x.ownsRow w.heap.size 9 1 (.slice (some ⟨g, 0, none⟩) l.length c) l.length (l.map Value.string) ∧ Below w.heap.size w x := by
  have hown : (w.alloc (.cells #[] 9)).ownsRow w.heap.size 9 1 (.slice (some ⟨w.heap.size, 0, none⟩) 0 0) 0 (([] : List ByteArray).map Value.string) :=
    ⟨rfl, .inr ⟨w.heap.size, 0, #[], rfl, Nat.le_refl _, heap_alloc_new w _, Nat.le_refl _, by unfold maxLen; omega, rfl, rfl⟩⟩
  have hB1 : Below w.heap.size w (w.alloc (.cells #[] 9)) := (Below.refl _ _).alloc (Nat.le_refl _) _
  have hlen : l.length * 16 ≤ 140737488351232 := by obtain ⟨⟨_, _, _, _, _, h, _⟩, _⟩ := hy; exact h
  obtain ⟨i0, hi, hz0, hz1, hz2⟩ := info_parts Tryz.infoStr
  obtain ⟨a, n, cap, HN, rfl, h1, h2, h3, h4⟩ := (hy.below hB1).open
  have hn : n = l.length := HN.out
  subst hn
  obtain ⟨b, off, rfl, _, hc⟩ := h4 hp
  obtain ⟨g', c', x', hr, ho, hg, _, _⟩ := run_append_lies (P := Tryz.prog) (w.alloc (.cells #[] 9)) 64 ty w.heap.size 9 i0 _ 1 16 Tryz.underlying64 hi hz0 hz1 hz2 rfl (by omega) _ 0 _ hown ⟨b, off, none⟩ l.length cap (l.map Value.string) (by simp)
    (fun j u hu => by
      rw [List.getElem?_map] at hu
      by_cases hj : j < l.length
      · rw [List.getElem?_eq_getElem hj] at hu
        simp at hu; subst hu
        have := hc j _ hj (Below.refl _ _)
        rw [sa_lt hj] at this
        rw [show (⟨b, off, none⟩ : Addr).add j = ⟨b, off + j, none⟩ by unfold Addr.add; split <;> simp_all]
        exact this
      · rw [List.getElem?_eq_none (by omega)] at hu; cases hu)
    (by intro u hu; obtain ⟨k, _, rfl⟩ := List.mem_map.1 hu; rfl) (by omega) (by unfold maxLen; omega) (by omega) (by simp) _ rfl
  refine ⟨g', c', x', by simpa using hr, by simpa using ho, ?_⟩
  exact hB1.trans ((Upd.grown (Upd.refl (fun b => w.heap.size ≤ b) _) hg (fun k hk _ => by cases hk; exact Nat.le_refl _)).below (B := w.heap.size) (by simp) (fun b hb => hb))
/-- what is owned reads as texts -/
theorem own_strs {x : World} {B N : Nat} {v : Value} {l : List ByteArray} (h : x.ownsRow B 9 1 v N (l.map Value.string)) (hN : N = l.length) (hi : ∀ s ∈ l, s.size ≤ 140737488351232) (hb : N * 16 ≤ 140737488351232) : StrsV (fun b => B ≤ b) x v l := by
  subst hN
  refine ⟨own_sl h (fun g hg => (h.lt g hg).1) (by omega) (fun i hn j u hu => ?_), hi⟩
  match j, hu with
  | 0, hu =>
    simp at hu; subst hu
    simp [sa_lt hn, hn]
theorem StrsV.bytes {S : Nat → Prop} {w : World} {v : Value} {l : List ByteArray} (h : StrsV S w v l) : l.length * 16 ≤ 140737488351232 := by obtain ⟨⟨_, _, _, _, _, h, _⟩, _⟩ := h; exact h

/-- one text of a row of the call's own is written -/
theorem set_strs {x : World} {B N g c k : Nat} {l : List ByteArray} {s : ByteArray} (h : x.ownsRow B 9 1 (.slice (some ⟨g, 0, none⟩) N c) N (l.map Value.string)) (hN : N = l.length) (hk : k < N) (hi : ∀ s ∈ l, s.size ≤ 140737488351232) (hs : s.size ≤ 140737488351232) (hb : N * 16 ≤ 140737488351232) :
    x.cell? ⟨g, k, none⟩ = some (.string (sa l k)) ∧ x.frozen? ⟨g, k, none⟩ = false ∧ B ≤ g ∧ StrsV (fun b => b = g) (x.setCell ⟨g, k, none⟩ (.string s)) (.slice (some ⟨g, 0, none⟩) N c) (l.set k s) := by
  subst hN
  obtain ⟨hxl, hown⟩ := h
  rcases hown with ⟨e, _⟩ | ⟨g', cap, cur, e, hBg, hg, hnc, hcm, hcs, hxs⟩
  · cases e
  cases e
  have hcur : ∀ i, i < l.length → cur[i]? = some (.string (sa l i)) := fun i hil => by
    have h1 : (cur.toList.take (l.length * 1))[i]? = (l.map Value.string)[i]? := by rw [hxs]
    rw [List.getElem?_take, if_pos (by omega)] at h1
    rw [Array.getElem?_toList] at h1
    rw [h1, List.getElem?_map, List.getElem?_eq_getElem hil, sa_lt hil]; rfl
  have hsz : l.length ≤ cur.size := by omega
  refine ⟨block_cell hg (hcur k hk), block_free hg, hBg, ?_⟩
  have hl2 : (l.set k s).length = l.length := List.length_set
  have hr := StrsV.mk (S := fun b => b = g) (w := x.setCell ⟨g, k, none⟩ (.string s)) (l := l.set k s) (b := g) (off := 0) (cap := c) (by omega) (by unfold maxLen at hcm; omega) (by omega) rfl (fun i hil => by
    rw [Nat.zero_add]
    refine block_cell (block_setCell (j := k) hg (.string s)) ?_
    rw [hl2] at hil
    by_cases e : i = k
    · subst e
      rw [Array.getElem?_setIfInBounds_self_of_lt (by omega), sa_lt (by omega)]; simp
    · rw [Array.getElem?_setIfInBounds_ne (by omega), hcur i hil, sa_lt hil, sa_lt (by omega), List.getElem_set_ne (by omega)]) (fun s' hs' => by
    rcases List.mem_or_eq_of_mem_set hs' with h | h
    · exact hi s' h
    · subst h; exact hs)
  rw [hl2] at hr; exact hr

/-- 'yes ' ahead, and more behind -/
def yes4 (s : ByteArray) : Bool := decide (4 < s.size) && ((s.extract 0 4).toList == [121, 101, 115, 32])
theorem dec_digit {n : Int} (h : Digit n) : (decB n).size = 1 := by
  obtain ⟨h0, h1⟩ := h
  have : n = 0 ∨ n = 1 ∨ n = 2 ∨ n = 3 ∨ n = 4 ∨ n = 5 ∨ n = 6 ∨ n = 7 ∨ n = 8 ∨ n = 9 := by omega
  rcases this with rfl | rfl | rfl | rfl | rfl | rfl | rfl | rfl | rfl | rfl <;> decide +kernel
theorem vote_no {r : Rep} {p : Psh} (h : tryE r p ≠ 0) : (voteR r p).size = 4 := by
  unfold voteR; rw [if_pos h]
  rw [ByteArray.size_append, dec_digit (dig_try r p)]; rfl
theorem vote_yes {r : Rep} {p : Psh} (h : tryE r p = 0) : 4 < (voteR r p).size ∧ ((voteR r p).extract 0 4).toList = [121, 101, 115, 32] := by
  unfold voteR; rw [if_neg (by simpa using h)]
  generalize decB r.gen = ds
  generalize textL p.updates = tx
  have hs : (yesSp ++ ds ++ spB ++ tx).size = 4 + ds.size + 1 + tx.size := by
    rw [ByteArray.size_append, ByteArray.size_append, ByteArray.size_append]; rfl
  refine ⟨by omega, ?_⟩
  have e : (yesSp ++ ds ++ spB ++ tx).extract 0 4 = yesSp := by
    apply ByteArray.ext
    rw [ByteArray.data_extract, ByteArray.data_append, ByteArray.data_append, ByteArray.data_append]
    apply Array.toList_inj.1
    rw [Array.toList_extract, Array.toList_append, Array.toList_append, Array.toList_append]
    rfl
  rw [e]; decide +kernel
/-- the two ends change places -/
def swapM (us : List Mv) : List Mv := (us.set 0 (mv us (us.length - 1))).set (us.length - 1) (mv us 0)
theorem swap_perm {us : List Mv} (h : 1 < us.length) : (swapM us).Perm us := by
  unfold swapM
  rw [mv_lt (show 0 < us.length by omega), mv_lt (show us.length - 1 < us.length by omega)]
  exact List.set_set_perm (by omega) (by omega)
theorem ofE_perm {r : Rep} {p : Psh} {us : List Mv} (hp : us.Perm p.updates) (h : ofE r p = 0) : ofE r ⟨p.objects, us, p.force⟩ = 0 := by
  unfold ofE at h ⊢
  have hc : checkPsh p = 0 := by
    by_cases hc : checkPsh p = 0
    · exact hc
    · rw [if_pos hc] at h; exact h
  obtain ⟨c1, c2, c3⟩ := checkPsh_zero hc
  have hc2 : checkPsh ⟨p.objects, us, p.force⟩ = 0 := by
    unfold checkPsh; rw [if_neg (by show ¬ 12 < p.objects.length; omega), if_neg (by simpa using c2)]; exact (checkMvs_perm hp).1 c3
  rw [if_neg (by simpa using hc)] at h
  rw [if_neg (by simpa using hc2)]; exact h
theorem ofE_check {r : Rep} {p : Psh} (h : ofE r p = 0) : checkPsh p = 0 := by
  unfold ofE at h
  by_cases hc : checkPsh p = 0
  · exact hc
  · rw [if_pos hc] at h; exact h
theorem vote_perm {r : Rep} {p : Psh} {us : List Mv} (hp : us.Perm p.updates) (h : ofE r p = 0) (ht : tryE r p = 0) : voteR r ⟨p.objects, us, p.force⟩ = voteR r p := by
  have hok := mvs_ok.1 (checkPsh_zero (ofE_check h)).2.2
  have ha : addE r.store p.objects = 0 := by
    unfold tryE at ht
    by_cases ha : addE r.store p.objects = 0
    · exact ha
    · rw [if_pos ha] at ht; exact ht
  have h1 : applyE r.refs (addL r.store p.objects) p.updates p.force = 0 := by
    unfold tryE at ht; rw [if_neg (by simpa using ha)] at ht; exact ht
  have h2 : tryE r ⟨p.objects, us, p.force⟩ = 0 := by
    unfold tryE; rw [if_neg (by simpa using ha)]
    exact (apply_perm p.force hp).1.1 h1
  unfold voteR
  rw [if_neg (by simpa using h2), if_neg (by simpa using ht)]
  show yesSp ++ decB r.gen ++ spB ++ textL us = _
  rw [text_perm hok hp]
end Go.Proofs.YtdhoodloklgokaaGreatDoor
