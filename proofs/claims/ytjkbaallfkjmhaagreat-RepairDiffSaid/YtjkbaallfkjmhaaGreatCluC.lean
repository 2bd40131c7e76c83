
/- CluC: walks of cluster.Check, Newest, CheckCluster, SameCluster, clusterIs. -/
import Derived.Test.YtjkbaallfkjmhaaGreatCluB
namespace Go.Proofs.YtjkbaallfkjmhaaGreat
open Go.RowKit
set_option linter.unusedVariables false
set_option linter.unusedSimpArgs false

def cluBad (l : List Rep) (i : Nat) : Bool := (l.take i).any fun x => oddB x (rep l i)
def badE (l : List Rep) (i : Nat) : Int := if cluBad l i = true then 4 else 0
/-- I1 -/
def cluE (l : List Rep) : Int :=
  if l.length ≠ 3 then 1 else if scan (fun i => repCheck (rep l i)) 3 ≠ 0 then scan (fun i => repCheck (rep l i)) 3 else if scan (badE l) 3 ≠ 0 then 4 else if 2 * (many l : Int) ≤ 3 then 4 else 0
theorem cluE_check {l : List Rep} (hl : l.length = 3) {k : Nat} {e : Int} (h0 : scan (fun i => repCheck (rep l i)) k = 0) (hk : k < 3) (he : repCheck (rep l k) = e) (hne : e ≠ 0) : cluE l = e := by
  have h := scan_hit (f := fun i => repCheck (rep l i)) h0 (by show repCheck (rep l k) ≠ 0; rw [he]; exact hne) hk
  unfold cluE
  rw [if_neg (by omega), if_pos (by rw [h]; show repCheck (rep l k) ≠ 0; rw [he]; exact hne), h]; exact he
theorem cluE_bad {l : List Rep} (hl : l.length = 3) {k : Nat} (h0 : scan (fun i => repCheck (rep l i)) 3 = 0) (h1 : scan (badE l) k = 0) (hk : k < 3) (hb : cluBad l k = true) : cluE l = 4 := by
  have e : badE l k = 4 := by unfold badE; rw [if_pos hb]
  have h := scan_hit (f := badE l) h1 (by rw [e]; decide) hk
  unfold cluE
  rw [if_neg (by omega), if_neg (by simpa using h0), if_pos (by rw [h, e]; decide)]
theorem cluE_few {l : List Rep} (hl : l.length = 3) (h0 : scan (fun i => repCheck (rep l i)) 3 = 0) (h1 : scan (badE l) 3 = 0) : cluE l = if 2 * (many l : Int) ≤ 3 then 4 else 0 := by
  unfold cluE
  rw [if_neg (by omega), if_neg (by simpa using h0), if_neg (by simpa using h1)]
theorem cluE_form {l : List Rep} (hl : l.length ≠ 3) : cluE l = 1 := by unfold cluE; rw [if_pos hl]
theorem bad_next {l : List Rep} {k : Nat} (h : scan (badE l) k = 0) (hb : cluBad l k = false) : scan (badE l) (k + 1) = 0 := scan_next h (by unfold badE; rw [hb]; rfl)

/-- how many of the first k have Gen g -/
def cnt (l : List Rep) (g : Int) : Nat → Nat
  | 0 => 0
  | k + 1 => cnt l g k + if (rep l k).gen = g then 1 else 0
theorem cnt_none {l : List Rep} {g : Int} : ∀ {k : Nat}, (∀ i, i < k → (rep l i).gen ≠ g) → cnt l g k = 0
  | 0, _ => rfl
  | k + 1, h => by unfold cnt; rw [cnt_none (fun i hi => h i (by omega)), if_neg (h k (by omega))]
theorem cnt_le (l : List Rep) (g : Int) : ∀ k, cnt l g k ≤ k
  | 0 => Nat.le_refl _
  | k + 1 => by have := cnt_le l g k; unfold cnt; split <;> omega
theorem best_inv (l : List Rep) : ∀ k, (∀ i, i < k → (rep l i).gen ≤ (rep l (bestTo l k).1).gen) ∧ (bestTo l k).2 = cnt l (rep l (bestTo l k).1).gen k
  | 0 => ⟨fun i hi => absurd hi (by omega), rfl⟩
  | k + 1 => by
    obtain ⟨h1, h2⟩ := best_inv l k
    unfold bestTo
    by_cases hg : k = 0 ∨ (rep l (bestTo l k).1).gen < (rep l k).gen
    · rw [if_pos hg]
      have hlt : ∀ i, i < k → (rep l i).gen < (rep l k).gen := fun i hi => by
        rcases hg with h | h
        · omega
        · exact Int.lt_of_le_of_lt (h1 i hi) h
      refine ⟨fun i hi => ?_, ?_⟩
      · by_cases e : i = k
        · subst e; exact Int.le_refl _
        · exact Int.le_of_lt (hlt i (by omega))
      · show 1 = cnt l (rep l k).gen (k + 1)
        unfold cnt
        rw [cnt_none (fun i hi => by have := hlt i hi; omega), if_pos rfl]
    · rw [if_neg hg]
      have hle : (rep l k).gen ≤ (rep l (bestTo l k).1).gen := by
        rcases Int.lt_or_le (rep l (bestTo l k).1).gen (rep l k).gen with h | h
        · exact absurd (.inr h) hg
        · exact h
      by_cases he : (rep l k).gen = (rep l (bestTo l k).1).gen
      · rw [if_pos he]
        refine ⟨fun i hi => ?_, ?_⟩
        · by_cases e : i = k
          · subst e; exact hle
          · exact h1 i (by omega)
        · show (bestTo l k).2 + 1 = cnt l (rep l (bestTo l k).1).gen (k + 1)
          unfold cnt; rw [if_pos he, ← h2]
      · rw [if_neg he]
        refine ⟨fun i hi => ?_, ?_⟩
        · by_cases e : i = k
          · subst e; exact hle
          · exact h1 i (by omega)
        · show (bestTo l k).2 = cnt l (rep l (bestTo l k).1).gen (k + 1)
          unfold cnt; rw [if_neg he, ← h2, Nat.add_zero]
theorem many_cnt (l : List Rep) : many l = cnt l (rep l (best l)).gen l.length := (best_inv l l.length).2
theorem best_lt {l : List Rep} (h : 0 < l.length) : best l < l.length := by have := bestTo_lt l l.length; unfold best; omega
theorem oddB_comm (x y : Rep) : oddB x y = oddB y x := by
  unfold oddB
  have e1 : (x.gen == y.gen) = (y.gen == x.gen) := by rw [Bool.eq_iff_iff, beq_iff_eq, beq_iff_eq]; exact eq_comm
  have e2 : sameRefs x.refs y.refs = sameRefs y.refs x.refs := by rw [Bool.eq_iff_iff, sameRefs_iff, sameRefs_iff]; exact eq_comm
  rw [e1, e2]
theorem rep_take {l : List Rep} {i j : Nat} (h : j < i) : rep (l.take i) j = rep l j := by
  unfold rep at_; simp only [List.getD_eq_getElem?_getD, List.getElem?_take, if_pos h]
theorem bad_at {l : List Rep} {i k : Nat} (hi : i ≤ l.length) (hk : k < i) (h : oddB (rep l i) (rep l k) = true) : cluBad l i = true := by
  unfold cluBad
  rw [List.any_eq_true]
  have hl : k < (l.take i).length := by rw [List.length_take]; omega
  exact ⟨rep l k, by rw [← rep_take hk, rep_lt hl]; exact List.getElem_mem hl, by rw [oddB_comm]; exact h⟩
theorem bad_not {l : List Rep} {i : Nat} (hi : i ≤ l.length) (h : ∀ k, k < i → oddB (rep l i) (rep l k) = false) : cluBad l i = false := by
  unfold cluBad
  rw [List.any_eq_false]
  intro x hx
  obtain ⟨k, hk, rfl⟩ := List.getElem_of_mem hx
  have hk' : k < i := by rw [List.length_take] at hk; omega
  rw [← rep_lt hk, rep_take hk', oddB_comm, h k hk']; simp

set_option maxRecDepth 100000 in
set_option maxHeartbeats 4000000 in
theorem cluCheck_any (l : List Rep) (v : Value) (S : Nat → Prop) (w : World) (h : RepsV S w v l) :
    Calls Tryz.prog 57 #[.agg #[v]] w fun e w' => e = .returned (.int .i64 (cluE l)) ∧ Below w.heap.size w w' := by
  have h' := h
  obtain ⟨a, n, cap, fr, HN, rfl, h1, h2, h3, h4, h5⟩ := h.open
  obtain ⟨R, hR, hR1, HB0⟩ := cls_allocs w [.cells #[.slice a n cap] 44]
  simp only [List.foldl] at hR1
  have hRb := hR.below
  have hRn := hR.next
  have c0 := fun x (hx : In R x) => block_cell (j := 0) (HB0 x hx 0 _ rfl) rfl
  simp only [Nat.add_zero] at c0
  clear HB0
  have cc := c0 _ hR1
  by_cases hn3 : n = 3
  case neg =>
    have HE := Lib.hid (cluE_form (l := l) (by rw [← HN.out]; exact hn3))
    have hq : ((n : Int) != 3) = true := by simpa using (show (n : Int) ≠ 3 by omega)
    clear hn3 h h'
    go_enter Tryz.func57, Tryz.ntmps57
    go_wp2_with fail
    go_ret
    exact ⟨ret_int HE.out.symm, hRb _ hR1⟩
  case pos =>
    subst hn3
    have hl3 : l.length = 3 := HN.out.symm
    have HA := Lib.hid (fun k e h0 (hk : k < 3) he hne => cluE_check (l := l) (k := k) (e := e) hl3 h0 hk he hne)
    have HB := Lib.hid (fun k h0 h1 (hk : k < 3) hb => cluE_bad (l := l) (k := k) hl3 h0 h1 hk hb)
    have HF := Lib.hid (fun h0 h1 => cluE_few (l := l) hl3 h0 h1)
    have H := Lib.hid h'
    have Hl3 := Lib.hid hl3
    clear h h' hl3
    go_enter Tryz.func57, Tryz.ntmps57
    go_wp2_with fail
    clear cc
    go_loopw [17] (fun i wr => ∃ k : Nat, k ≤ 3 ∧ i = .int .i64 k ∧ Hid (scan (fun i => repCheck (rep l i)) k = 0) ∧ In R wr) (fun i _ => 3 - (intOf i).toNat)
    case atStart => exact ⟨0, by omega, rfl, rfl, hR1⟩
    case round =>
      obtain ⟨k, hk, rfl, Hs, hRw⟩ := hrel
      clear hR1
      by_cases hlt : k < 3
      · obtain ⟨b, off, rfl, hb, k0, k1, k2, k3, k4, k5, k6⟩ := h4 (by omega)
        have x0 := k0 k wr hlt (hRb _ hRw)
        have x1 := k1 k wr hlt (hRb _ hRw)
        have x2 := k2 k wr hlt (hRb _ hRw)
        have x3 := k3 k wr hlt (hRb _ hRw)
        have x4 := k4 k wr hlt (hRb _ hRw)
        have x5 := k5 k wr hlt (hRb _ hRw)
        have x6 := k6 k wr hlt (hRb _ hRw)
        obtain ⟨Q, hQ, hQ1, hy⟩ := cls_box wr #[.slice (fr k).sa (rep l k).store.length (fr k).sc, .slice (fr k).ra (rep l k).refs.length (fr k).rc, .int .i64 (rep l k).gen, .int .i64 (rep l k).phase, .slice (fr k).oa (rep l k).pend.objects.length (fr k).oc, .slice (fr k).ua (rep l k).pend.updates.length (fr k).uc, .bool (rep l k).pend.force] 28
        have y0 := hy 0 _ rfl _ hQ1
        have y1 := hy 1 _ rfl _ hQ1
        have y2 := hy 2 _ rfl _ hQ1
        have y3 := hy 3 _ rfl _ hQ1
        have y4 := hy 4 _ rfl _ hQ1
        have y5 := hy 5 _ rfl _ hQ1
        have y6 := hy 6 _ rfl _ hQ1
        have hR2 := hRn _ _ hRw (hQ.below _ hQ1)
        have hi1 : (0 : Int) ≤ (k : Int) := by omega
        have hi2 : (k : Int) < (3 : Int) := by omega
        have HC := Lib.hid (repCheck_any (rep l k) _ _ _ _ _ _ ((h5 k hlt).below (hRb _ hR2)))
        simp only [repV] at HC
        clear hy hQ1 hQ h4 h5 k0 k1 k2 k3 k4 k5 k6
        by_cases hz : repCheck (rep l k) = 0
        · have Hz := Lib.hid hz
          rw [hz] at HC
          clear hz
          go_wp2_with fail
          refine HC.out.mono ?_
          rintro e w1 ⟨rfl, hb1⟩
          have hR3 := hRn _ _ hR2 hb1
          go_wp2_with fail
          go_roundw
          case rel => exact ⟨k + 1, by omega, by go_num, scan_next Hs.out Hz.out, hR3⟩
          case measure => simp [intOf]; omega
        · have HE := Lib.hid (HA.out k _ Hs.out hlt rfl hz)
          have hq : (repCheck (rep l k) != 0) = true := by simpa using hz
          clear hz
          generalize repCheck (rep l k) = c at *
          go_wp2_with fail
          refine HC.out.mono ?_
          rintro e w1 ⟨rfl, hb1⟩
          have hR3 := hRn _ _ hR2 hb1
          go_wp2_with fail
          go_ret
          exact ⟨ret_int HE.out.symm, hRb _ hR3⟩
      · obtain rfl : k = 3 := by omega
        have cc := c0 _ hRw
        rw [show ((3 : Nat) : Int) = 3 from rfl]
        go_wp2_with fail
        clear cc
        go_loopw [30] (fun i wx => ∃ k : Nat, k ≤ 3 ∧ i = .int .i64 k ∧ Hid (scan (badE l) k = 0) ∧ In R wx) (fun i _ => 3 - (intOf i).toNat)
        case atStart => exact ⟨0, by omega, rfl, rfl, hRw⟩
        case round =>
          obtain ⟨k, hk2, rfl, Ht, hRx⟩ := hrel
          clear hRw
          by_cases hlt : k < 3
          · have h5k := h5 k hlt
            obtain ⟨b, off, rfl, hb, k0, k1, k2, k3, k4, k5, k6⟩ := h4 (by omega)
            have x0 := k0 k wr hlt (hRb _ hRx)
            have x1 := k1 k wr hlt (hRb _ hRx)
            have x2 := k2 k wr hlt (hRb _ hRx)
            have x3 := k3 k wr hlt (hRb _ hRx)
            have x4 := k4 k wr hlt (hRb _ hRx)
            have x5 := k5 k wr hlt (hRb _ hRx)
            have x6 := k6 k wr hlt (hRb _ hRx)
            obtain ⟨Q, hQ, hQ1, hy⟩ := cls_box wr #[.slice (fr k).sa (rep l k).store.length (fr k).sc, .slice (fr k).ra (rep l k).refs.length (fr k).rc, .int .i64 (rep l k).gen, .int .i64 (rep l k).phase, .slice (fr k).oa (rep l k).pend.objects.length (fr k).oc, .slice (fr k).ua (rep l k).pend.updates.length (fr k).uc, .bool (rep l k).pend.force] 28
            have hQb := hQ.below
            have hQR : ∀ x, In Q x → In R x := fun x hx => hRn _ _ hRx (hQb x hx)
            have Hy1 := Lib.hid (hy 1 _ rfl)
            have Hy2 := Lib.hid (hy 2 _ rfl)
            have hR2 := hQR _ hQ1
            have hi1 : (0 : Int) ≤ (k : Int) := by omega
            have hi2 : (k : Int) < (3 : Int) := by omega
            have hi3 : (k : Int) ≤ (cap : Int) := by omega
            have c1 := c0 _ hR2
            have HAp := Lib.hid (show AsksC 89 (.pointer (some ⟨wr.heap.size, 0, none⟩)) (fun x => oddB x (rep l k)) (wr.alloc (.cells #[.slice (fr k).sa (rep l k).store.length (fr k).sc, .slice (fr k).ra (rep l k).refs.length (fr k).rc, .int .i64 (rep l k).gen, .int .i64 (rep l k).phase, .slice (fr k).oa (rep l k).pend.objects.length (fr k).oc, .slice (fr k).ua (rep l k).pend.updates.length (fr k).uc, .bool (rep l k).pend.force] 28)) (l.take k) from
              fun x i S2 sv rv ov uv hi hx hr => cluCheck1_any _ (rep l k) sv rv ov uv _ _ x hr wr.heap.size _ (h5k.refs.below (hRb _ (hQR _ (hQ.next _ _ hQ1 hx)))) (Hy2.out x (hQ.next _ _ hQ1 hx)) (Hy1.out x (hQ.next _ _ hQ1 hx)))
            have HCf := Lib.hid (containsFuncC_any (l.take k) _ _ S _ _ _ ((H.out.take (i := k) (by have := Hl3.out; omega)).below (hRb _ hR2)) (fun _ _ => rfl) HAp.out)
            have HCf : Hid (Calls _ _ _ _ fun e w' => e = .returned (.bool (cluBad l k)) ∧ Below _ _ w') := HCf
            clear hy hQ1 hQ h4 h5 k0 k1 k2 k3 k4 k5 k6 HAp Hy1 Hy2 h5k hQb hQR
            cases hb : cluBad l k
            · have Hn := Lib.hid (bad_next Ht.out hb)
              rw [hb] at HCf
              go_wp2_with fail
              refine HCf.out.mono ?_
              rintro e w1 ⟨rfl, hb1⟩
              have hR3 := hRn _ _ hR2 hb1
              go_wp2_with fail
              go_roundw
              case rel => exact ⟨k + 1, by omega, by go_num, Hn.out, hR3⟩
              case measure => simp [intOf]; omega
            · have HE := Lib.hid (HB.out k Hs.out Ht.out hlt hb)
              rw [hb] at HCf
              go_wp2_with fail
              refine HCf.out.mono ?_
              rintro e w1 ⟨rfl, hb1⟩
              have hR3 := hRn _ _ hR2 hb1
              go_wp2_with fail
              go_ret
              exact ⟨ret_int HE.out.symm, hRb _ hR3⟩
          · obtain rfl : k = 3 := by omega
            have cc := c0 _ hRx
            have HBe := Lib.hid (best_any l _ _ _ (H.out.below (hRb _ hRx)))
            have HE := Lib.hid (HF.out Hs.out Ht.out)
            have hmm := bestTo_many l l.length
            have Hml := Lib.hid (show many l ≤ 3 by have := Hl3.out; unfold many; omega)
            clear hmm HB HA HF
            generalize many l = m at *
            have hml := Hml.out
            have hw1 := wrap_in (n := 2 * (m : Int)) (by omega)
            by_cases hm : 2 * (m : Int) ≤ 3
            · rw [if_pos hm] at HE
              have hd : decide (2 * (m : Int) ≤ 3) = true := decide_eq_true hm
              clear hm
              go_wp2_with fail
              refine HBe.out.mono ?_
              rintro e w1 ⟨rfl, hb1⟩
              have hR3 := hRn _ _ hRx hb1
              go_wp2_with fail
              go_ret
              exact ⟨ret_int HE.out.symm, hRb _ hR3⟩
            · rw [if_neg hm] at HE
              have hd : decide (2 * (m : Int) ≤ 3) = false := decide_eq_false hm
              clear hm
              go_wp2_with fail
              refine HBe.out.mono ?_
              rintro e w1 ⟨rfl, hb1⟩
              have hR3 := hRn _ _ hRx hb1
              go_wp2_with fail
              go_ret
              exact ⟨ret_int HE.out.symm, hRb _ hR3⟩

def newE (l : List Rep) : Int := cluE l
def newN (l : List Rep) : Int := if cluE l = 0 then (best l : Int) else 0
set_option maxRecDepth 100000 in
set_option maxHeartbeats 2000000 in
theorem newest_any (l : List Rep) (v : Value) (S : Nat → Prop) (w : World) (h : RepsV S w v l) :
    Calls Tryz.prog 30 #[.agg #[v]] w fun e w' => e = .returned (.tuple #[.int .i64 (newN l), .int .i64 (cluE l)]) ∧ Below w.heap.size w w' := by
  have HN := Lib.hid (show newN l = if cluE l = 0 then (best l : Int) else 0 from rfl)
  have H := Lib.hid h
  obtain ⟨a, cap, rfl⟩ := h.vshape
  obtain ⟨R, hR, hR1, HB0⟩ := cls_allocs w [.cells #[.slice a l.length cap] 44]
  simp only [List.foldl] at hR1
  have hRb := hR.below
  have hRn := hR.next
  have c0 := fun x (hx : In R x) => block_cell (j := 0) (HB0 x hx 0 _ rfl) rfl
  simp only [Nat.add_zero] at c0
  have cc := c0 _ hR1
  have HC := Lib.hid (cluCheck_any l _ _ _ (H.out.below (hRb _ hR1)))
  have HB := Lib.hid (fun x (hx : In R x) => best_any l _ _ x (H.out.below (hRb _ hx)))
  clear HB0 h
  by_cases hz : cluE l = 0
  · rw [if_pos hz] at HN
    rw [hz] at HC ⊢
    clear hz
    go_enter Tryz.func30, Tryz.ntmps30
    go_wp2_with fail
    refine HC.out.mono ?_
    rintro e w1 ⟨rfl, hb1⟩
    have hR2 := hRn _ _ hR1 hb1
    have c1 := c0 _ hR2
    go_wp2_with fail
    refine (HB.out _ hR2).mono ?_
    rintro e w2 ⟨rfl, hb2⟩
    have hR3 := hRn _ _ hR2 hb2
    go_wp2_with fail
    refine bodyPost_ret (v := .tuple #[.int .i64 (best l), .int .i64 0]) (by simp [results, Tryz.results30, go_sem] <;> rfl) rfl ?_
    exact ⟨by rw [HN.out], hRb _ hR3⟩
  · rw [if_neg hz] at HN
    have hq : (cluE l != 0) = true := by simpa using hz
    clear hz
    generalize cluE l = c at *
    go_enter Tryz.func30, Tryz.ntmps30
    go_wp2_with fail
    refine HC.out.mono ?_
    rintro e w1 ⟨rfl, hb1⟩
    have hR2 := hRn _ _ hR1 hb1
    go_wp2_with fail
    refine bodyPost_ret (v := .tuple #[.int .i64 0, .int .i64 c]) (by simp [results, Tryz.results30, go_sem] <;> rfl) rfl ?_
    exact ⟨by rw [HN.out], hRb _ hR2⟩

end Go.Proofs.YtjkbaallfkjmhaaGreat
