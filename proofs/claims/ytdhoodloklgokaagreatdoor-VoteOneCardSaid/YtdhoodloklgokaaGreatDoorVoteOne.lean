
/- Walks: the law VoteOne. -/
import Derived.Test.YtdhoodloklgokaaGreatDoorVoteG
import Derived.Test.YtdhoodloklgokaaGreatDoorVoteA
namespace Go.Proofs.YtdhoodloklgokaaGreatDoor
open Go.RowKit
set_option linter.unusedVariables false
set_option linter.unusedSimpArgs false

theorem tally_set' {l : List ByteArray} {k : Nat} {s T : ByteArray} (h3 : l.length = 3) (hk : k < 3) (hT : tallyR l = (T, true)) (hne : sa l k ≠ T) : tallyR (l.set k s) = (T, true) := by
  obtain ⟨a, b, c, rfl⟩ := three h3
  have : k = 0 ∨ k = 1 ∨ k = 2 := by omega
  rcases this with rfl | rfl | rfl
  · exact tally_set.1 hT hne
  · exact tally_set.2.1 hT hne
  · exact tally_set.2.2 hT hne
theorem tally_turn' {l : List ByteArray} {T : ByteArray} (h3 : l.length = 3) (hT : tallyR l = (T, true)) : tallyR [sa l 2, sa l 0, sa l 1] = (T, true) := by
  obtain ⟨a, b, c, rfl⟩ := three h3
  exact tally_turn hT

set_option maxRecDepth 100000 in
set_option maxHeartbeats 8000000 in
theorem voteOne_any (l : List ByteArray) (n : Int) (s : ByteArray) (lv : Value) (S : Nat → Prop) (w : World) (h : StrsV S w lv l) (hn : I64 n) (hs : s.size ≤ 140737488351232) (ht : Tab w) :
    Calls Tryz.prog 5 #[lv, .int .i64 n, .string s] w fun e w' => e = .returned (.bool true) ∧ Below w.heap.size w w' := by
  have H := Lib.hid h
  have HT := Lib.hid (fun x (hx : Below w.heap.size w x) => tally_any l _ _ x (h.below hx))
  rw [tally_same l] at HT
  have HB := Lib.hid (fun x (hx : Below w.heap.size w x) => voteBegun_any x (ht.below hx))
  obtain ⟨a, m, cap, HN, rfl, h1, h2, h3, h4⟩ := h.open
  clear h ht
  obtain ⟨T, K, hK⟩ : ∃ T K, tallyR l = (T, K) := ⟨_, _, rfl⟩
  have HK := Lib.hid hK
  rw [hK] at HT
  clear hK
  cases K
  case false =>
    have hT : T = ByteArray.empty := by have := tally_no (l := l) (by rw [HK.out]); rw [HK.out] at this; exact this
    subst hT
    have q1 : (ByteArray.empty.toList == []) = true := by decide +kernel
    have q2 : ByteArray.empty.toList.isEmpty = true := by decide +kernel
    go_enter Tryz.func5, Tryz.ntmps5
    go_wp2_with fail
    refine (HT.out _ (Below.refl _ _)).mono ?_
    rintro e w1 ⟨rfl, hb1⟩
    go_wp2_with fail
    refine (HB.out _ hb1).mono ?_
    rintro e w2 ⟨rfl, hb2⟩
    have HE := Lib.hid (below_next hb1 hb2)
    clear hb1 hb2
    go_wp2_with fail
    go_ret
    exact ⟨rfl, HE.out⟩
  case true =>
  obtain ⟨h30, hc2, hy⟩ := tally_iff.1 HK.out
  have hm : m = 3 := by rw [HN.out]; exact h30
  subst hm
  have Hl := Lib.hid h30
  have Hc2 := Lib.hid hc2
  clear hy hc2 h30
  by_cases hneg : n < 0
  case pos =>
    have q1 : decide (n < 0) = true := by simpa using hneg
    clear hneg h4
    go_enter Tryz.func5, Tryz.ntmps5
    go_wp2_with fail
    refine (HT.out _ (Below.refl _ _)).mono ?_
    rintro e w1 ⟨rfl, hb1⟩
    go_wp2_with fail
    refine (HB.out _ hb1).mono ?_
    rintro e w2 ⟨rfl, hb2⟩
    have HE := Lib.hid (below_next hb1 hb2)
    clear hb1 hb2
    go_wp2_with fail
    go_ret
    exact ⟨rfl, HE.out⟩
  have q1 : decide (n < 0) = false := by simpa using hneg
  by_cases hbig : 3 ≤ n
  case pos =>
    have q2 : decide (3 ≤ n) = true := by simpa using hbig
    clear hneg h4 hbig
    go_enter Tryz.func5, Tryz.ntmps5
    go_wp2_with fail
    refine (HT.out _ (Below.refl _ _)).mono ?_
    rintro e w1 ⟨rfl, hb1⟩
    go_wp2_with fail
    refine (HB.out _ hb1).mono ?_
    rintro e w2 ⟨rfl, hb2⟩
    have HE := Lib.hid (below_next hb1 hb2)
    clear hb1 hb2
    go_wp2_with fail
    go_ret
    exact ⟨rfl, HE.out⟩
  obtain ⟨k, rfl⟩ : ∃ k : Nat, n = (k : Int) := ⟨n.toNat, by omega⟩
  have hk : k < 3 := by omega
  have q2 : decide (3 ≤ (k : Int)) = false := by simpa using hbig
  clear hneg hbig hn
  obtain ⟨b, off, rfl, hS, k0⟩ := h4 (by omega)
  clear h4
  have K0 := Lib.hid (fun i x (hi : i < 3) (hx : Below w.heap.size w x) => k0 i x hi hx)
  clear k0 hS
  go_enter Tryz.func5, Tryz.ntmps5
  go_wp2_with fail
  refine (HT.out _ (Below.refl _ _)).mono ?_
  rintro e w1 ⟨rfl, hb1⟩
  go_wp2_with fail
  refine (HB.out _ hb1).mono ?_
  rintro e w2 ⟨rfl, hb2⟩
  have hb3 := below_next hb1 hb2
  clear hb1 hb2 HB HT
  go_wp2_with fail
  have HB2 := Lib.hid hb3
  clear hb3
  go_loopw [9, 10] (fun c i wr => ∃ q : Nat, q ≤ 3 ∧ i = .int .i64 q ∧ c = .int .i64 (cntTo l T q) ∧ w2 = wr) (fun _ i _ => 3 - (intOf i).toNat)
  case atStart => exact ⟨0, by omega, rfl, by unfold cntTo cntS; rfl, rfl⟩
  case round =>
    obtain ⟨q, hq, rfl, rfl, rfl⟩ := hrel
    by_cases hqn : q < 3
    case pos =>
      have yq := K0.out q w2 hqn HB2.out
      have hq1 : (0 : Int) ≤ (q : Int) := by omega
      have hq2 : (q : Int) < 3 := by omega
      have Hn1 := Lib.hid (cnt_next (l := l) (s := T) (k := q) (by rw [Hl.out]; exact hqn))
      have hl1 := cntS_le l T q
      generalize sa l q = t at *
      cases ht : (t.toList == T.toList)
      all_goals rw [ht] at Hn1
      · go_wp2_with fail
        go_roundw
        case rel => exact ⟨q + 1, by omega, by go_num, by rw [Hn1.out]; rfl, by first | rfl | trivial⟩
        case measure => simp [intOf]; omega
      · generalize hz : cntTo l T q = z at *
        have hwz := wrap_in (n := (z : Int) + 1) (by omega)
        go_wp2_with fail
        go_roundw
        case rel => exact ⟨q + 1, by omega, by go_num, by rw [Hn1.out]; rfl, by first | rfl | trivial⟩
        case measure => simp [intOf]; omega
    case neg =>
      obtain rfl : q = 3 := by omega
      have hcnt : ((3 : Nat) : Int) = 3 := rfl
      rw [hcnt]
      have hz2 : 2 ≤ cntTo l T 3 := by unfold cntTo; rw [List.take_of_length_le (by rw [Hl.out]; omega)]; exact Hc2.out
      have hz3 := cntS_le l T 3
      generalize cntTo l T 3 = z at *
      have hwz := wrap_in (n := 2 * (z : Int)) (by omega)
      have hqz : decide ((3 : Int) < 2 * (z : Int)) = true := by simp; omega
      clear hcnt hqn hq
      obtain ⟨g, c, x3, hr, ho, hb3⟩ := clone_strs (w := w2) 64 (H.out.below HB2.out) (by rw [Hl.out]; omega)
      rw [Hl.out] at hr ho
      obtain ⟨g0, f0, hgB, hset⟩ := set_strs (k := k) (s := s) ho Hl.out.symm hk (fun s hs => H.out.2 s hs) hs (by omega)
      have hk1 : (0 : Int) ≤ (k : Int) := by omega
      have hk2 : (k : Int) < 3 := by omega
      have hu4 : Upd (fun b => b = g) x3 (x3.setCell ⟨g, k, none⟩ (.string s)) := (Upd.refl (fun b => b = g) x3).setCell (p := ⟨g, k, none⟩) (fun _ => rfl) _
      have hb4 : Below w.heap.size w (x3.setCell ⟨g, k, none⟩ (.string s)) := (below_next HB2.out hb3).trans (hu4.below (B := w.heap.size) (below_next HB2.out hb3).size (fun b hb => by have := HB2.out.size; omega))
      have htm := tally_any _ _ _ _ hset
      rw [tally_same] at htm
      have HM := Lib.hid htm
      have HB4 := Lib.hid hb4
      have HR := Lib.hid hr
      clear htm hb4 hu4 hset hr ho hb3
      go_wp2_with (at_builtin; refine wpList_append_run rfl (.tmp 57) (.tmp 58) 64 rfl _ _ _ rfl rfl HR.out ?_)
      refine HM.out.mono ?_
      rintro e w5 ⟨rfl, hb5⟩
      have hb6 := below_next HB4.out hb5
      clear hb5 HM g0 f0 HR
      obtain ⟨U, I, hUI⟩ : ∃ U I, tallyR (l.set k s) = (U, I) := ⟨_, _, rfl⟩
      have HUI := Lib.hid hUI
      rw [hUI]
      clear hUI
      go_wp2_with fail
      obtain ⟨C, hC, hC1, _⟩ := cls_plain w5
      have hCb := hC.below
      have hCn := hC.next
      have hx0 := fun x (hx : In C x) => K0.out 0 x (by omega) (below_next hb6 (hCb _ hx))
      have hx1 := fun x (hx : In C x) => K0.out 1 x (by omega) (below_next hb6 (hCb _ hx))
      have hx2 := fun x (hx : In C x) => K0.out 2 x (by omega) (below_next hb6 (hCb _ hx))
      have hxk := fun x (hx : In C x) => K0.out k x hk (below_next hb6 (hCb _ hx))
      have HB6 := Lib.hid hb6
      clear hb6
      have Hsz := Lib.hid (fun i (hi : i < 3) => H.out.each (i := i) (by rw [Hl.out]; exact hi))
      have Htt := Lib.hid (tally_turn' Hl.out HK.out)
      have Hts := Lib.hid (fun hne => tally_set' (s := s) Hl.out hk HK.out hne)
      generalize hs0 : sa l 0 = s0 at *
      generalize hs1 : sa l 1 = s1 at *
      generalize hs2 : sa l 2 = s2 at *
      have Hs0 := Lib.hid (hs0 ▸ Hsz.out 0 (by omega))
      have Hs1 := Lib.hid (hs1 ▸ Hsz.out 1 (by omega))
      have Hs2 := Lib.hid (hs2 ▸ Hsz.out 2 (by omega))
      clear hs0 hs1 hs2
      refine wp_region_held (S := In C) (by kernel_rfl) ?_
      change wpAnyH _ _ _ _ _ _ _ _ (World.drew _)
      have hC0 := hC.drew _ hC1
      generalize w5.drew = x0 at hC0 ⊢
      clear hC1
      refine wpAnyH_take (i := 0) (v := .slice (some ⟨b, off, none⟩) 3 cap) rfl (by kernel_rfl) (by kernel_rfl) (by kernel_rfl) (fun _ _ _ h => h) (Or.inl ⟨by rfl, fun w hSw => ?_⟩) hC0 ?_
      · go_simp
      simp only [Act.put, List.getElem_toArray, List.getElem_cons_zero, List.getElem_cons_succ, List.setIfInBounds_toArray, List.set_cons_zero, List.set_cons_succ]
      refine wpAnyH_take (i := 1) (v := .pointer (some ⟨b, off + 2, none⟩)) rfl (by kernel_rfl) (by kernel_rfl) (by kernel_rfl) (fun _ _ _ h => h) (Or.inl ⟨by rfl, fun w hSw => ?_⟩) hC0 ?_
      · go_simp
      simp only [Act.put, List.getElem_toArray, List.getElem_cons_zero, List.getElem_cons_succ, List.setIfInBounds_toArray, List.set_cons_zero, List.set_cons_succ]
      refine wpAnyH_take (i := 2) (v := .string s2) rfl (by kernel_rfl) (by kernel_rfl) (by kernel_rfl) (fun _ _ _ h => h) (Or.inl ⟨by rfl, fun w hSw => ?_⟩) hC0 ?_
      · have yy := hx2 _ hSw; go_simp
      simp only [Act.put, List.getElem_toArray, List.getElem_cons_zero, List.getElem_cons_succ, List.setIfInBounds_toArray, List.set_cons_zero, List.set_cons_succ]
      refine wpAnyH_take (i := 3) (v := .slice (some ⟨b, off, none⟩) 3 cap) rfl (by kernel_rfl) (by kernel_rfl) (by kernel_rfl) (fun _ _ _ h => h) (Or.inl ⟨by rfl, fun w hSw => ?_⟩) hC0 ?_
      · go_simp
      simp only [Act.put, List.getElem_toArray, List.getElem_cons_zero, List.getElem_cons_succ, List.setIfInBounds_toArray, List.set_cons_zero, List.set_cons_succ]
      refine wpAnyH_take (i := 4) (v := .pointer (some ⟨b, off, none⟩)) rfl (by kernel_rfl) (by kernel_rfl) (by kernel_rfl) (fun _ _ _ h => h) (Or.inl ⟨by rfl, fun w hSw => ?_⟩) hC0 ?_
      · go_simp
      simp only [Act.put, List.getElem_toArray, List.getElem_cons_zero, List.getElem_cons_succ, List.setIfInBounds_toArray, List.set_cons_zero, List.set_cons_succ]
      refine wpAnyH_take (i := 5) (v := .string s0) rfl (by kernel_rfl) (by kernel_rfl) (by kernel_rfl) (fun _ _ _ h => h) (Or.inl ⟨by rfl, fun w hSw => ?_⟩) hC0 ?_
      · have yy := hx0 _ hSw; rw [Nat.add_zero] at yy; go_simp
      simp only [Act.put, List.getElem_toArray, List.getElem_cons_zero, List.getElem_cons_succ, List.setIfInBounds_toArray, List.set_cons_zero, List.set_cons_succ]
      refine wpAnyH_take (i := 6) (v := .slice (some ⟨b, off, none⟩) 3 cap) rfl (by kernel_rfl) (by kernel_rfl) (by kernel_rfl) (fun _ _ _ h => h) (Or.inl ⟨by rfl, fun w hSw => ?_⟩) hC0 ?_
      · go_simp
      simp only [Act.put, List.getElem_toArray, List.getElem_cons_zero, List.getElem_cons_succ, List.setIfInBounds_toArray, List.set_cons_zero, List.set_cons_succ]
      refine wpAnyH_take (i := 7) (v := .pointer (some ⟨b, off + 1, none⟩)) rfl (by kernel_rfl) (by kernel_rfl) (by kernel_rfl) (fun _ _ _ h => h) (Or.inl ⟨by rfl, fun w hSw => ?_⟩) hC0 ?_
      · go_simp
      simp only [Act.put, List.getElem_toArray, List.getElem_cons_zero, List.getElem_cons_succ, List.setIfInBounds_toArray, List.set_cons_zero, List.set_cons_succ]
      refine wpAnyH_take (i := 8) (v := .string s1) rfl (by kernel_rfl) (by kernel_rfl) (by kernel_rfl) (fun _ _ _ h => h) (Or.inl ⟨by rfl, fun w hSw => ?_⟩) hC0 ?_
      · have yy := hx1 _ hSw; go_simp
      simp only [Act.put, List.getElem_toArray, List.getElem_cons_zero, List.getElem_cons_succ, List.setIfInBounds_toArray, List.set_cons_zero, List.set_cons_succ]
      refine wpAnyH_all (rs := [9]) (by kernel_rfl) (by simp) (fun j hj => ?_)
      obtain rfl : j = 9 := by simpa using hj
      refine Or.inl ?_
      have hC1 := hC.alloc _ (.cells #[.string s2, .string s0, .string s1] 9) hC0
      go_simp
      have HSn := Lib.hid (strs_new x0 [s2, s0, s1] 9 _ rfl (by simp) (by intro s hs; simp only [List.mem_cons, List.not_mem_nil, or_false] at hs; rcases hs with rfl | rfl | rfl; exact Hs2.out; exact Hs0.out; exact Hs1.out))
      have HTn := Lib.hid (tally_any _ _ _ _ HSn.out)
      rw [tally_same, Htt.out] at HTn
      refine wpAnyH_all (rs := [10]) (by kernel_rfl) (by simp) (fun j hj => ?_)
      obtain rfl : j = 10 := by simpa using hj
      refine Or.inl ?_
      go_wp2_with fail
      refine HTn.out.mono ?_
      rintro e x5 ⟨rfl, hb5⟩
      have hC2 := hCn _ _ hC1 hb5
      clear hb5 HTn HSn
      go_simp
      generalize x5 = x2 at *
      refine wpAnyH_take (i := 11) (v := .tuple #[.string T, .bool true]) rfl (by kernel_rfl) (by kernel_rfl) (by kernel_rfl) (fun _ _ _ h => h) (Or.inl ⟨by rfl, fun w hSw => ?_⟩) hC2 ?_
      · go_simp
      simp only [Act.put, List.getElem_toArray, List.getElem_cons_zero, List.getElem_cons_succ, List.setIfInBounds_toArray, List.set_cons_zero, List.set_cons_succ]
      refine wpAnyH_take (i := 12) (v := .string T) rfl (by kernel_rfl) (by kernel_rfl) (by kernel_rfl) (fun _ _ _ h => h) (Or.inl ⟨by rfl, fun w hSw => ?_⟩) hC2 ?_
      · go_simp
      simp only [Act.put, List.getElem_toArray, List.getElem_cons_zero, List.getElem_cons_succ, List.setIfInBounds_toArray, List.set_cons_zero, List.set_cons_succ]
      refine wpAnyH_take (i := 13) (v := .bool true) rfl (by kernel_rfl) (by kernel_rfl) (by kernel_rfl) (fun _ _ _ h => h) (Or.inl ⟨by rfl, fun w hSw => ?_⟩) hC2 ?_
      · go_simp
      simp only [Act.put, List.getElem_toArray, List.getElem_cons_zero, List.getElem_cons_succ, List.setIfInBounds_toArray, List.set_cons_zero, List.set_cons_succ]
      refine wpAnyH_take (i := 14) (v := .string T) rfl (by kernel_rfl) (by kernel_rfl) (by kernel_rfl) (fun _ _ _ h => h) (Or.inl ⟨by rfl, fun w hSw => ?_⟩) hC2 ?_
      · go_simp
      simp only [Act.put, List.getElem_toArray, List.getElem_cons_zero, List.getElem_cons_succ, List.setIfInBounds_toArray, List.set_cons_zero, List.set_cons_succ]
      refine wpAnyH_take (i := 15) (v := .bool true) rfl (by kernel_rfl) (by kernel_rfl) (by kernel_rfl) (fun _ _ _ h => h) (Or.inl ⟨by rfl, fun w hSw => ?_⟩) hC2 ?_
      · go_simp
      simp only [Act.put, List.getElem_toArray, List.getElem_cons_zero, List.getElem_cons_succ, List.setIfInBounds_toArray, List.set_cons_zero, List.set_cons_succ]
      refine wpAnyH_done (by kernel_rfl) ?_ _
      have yk := hxk _ hC2
      have HE := Lib.hid (below_next HB6.out (hCb _ hC2))
      clear hx0 hx1 hx2 hxk
      generalize sa l k = sk at *
      have q3 : (T.toList == T.toList) = true := by simp
      by_cases hsk : sk = T
      case pos =>
        subst hsk
        go_wp2_with fail
        go_ret
        exact ⟨rfl, HE.out⟩
      case neg =>
        have q4 : (sk.toList == T.toList) = false := by rw [text_eq]; simpa using hsk
        have hui := (HUI.out.symm.trans (Hts.out hsk))
        obtain ⟨rfl, rfl⟩ := Prod.mk.inj hui
        clear hsk hui
        go_wp2_with fail
        go_ret
        exact ⟨rfl, HE.out⟩
end Go.Proofs.YtdhoodloklgokaaGreatDoor
