/- Walks: what a walker visits. -/
import Derived.Test.YtcppgkhkijejoaaWalk1
import Derived.Test.YtcppgkhkijejoaaStor2
import Derived.Test.YtcppgkhkijejoaaTold2
namespace Go.Proofs.Ytcppgkhkijejoaa
open Go.RowKit
set_option linter.unusedVariables false
set_option linter.unusedSimpArgs false

/-- which places have been met, as cells -/
def markRow (n : Nat) (M : Nat → Bool) : Array Value := ((List.range n).map fun j => Value.bool (M j)).toArray
theorem markRow_get {n : Nat} {M : Nat → Bool} {j : Nat} (h : j < n) : (markRow n M)[j]? = some (.bool (M j)) := by simp [markRow, h]
theorem markRow_set {n : Nat} {M : Nat → Bool} {i : Nat} (h : i < n) : (markRow n M).setIfInBounds i (.bool true) = markRow n (fun j => M j || j == i) := by
  apply Array.ext_getElem?
  intro j
  rw [Array.getElem?_setIfInBounds]
  by_cases hj : i = j
  · subst hj; simp [markRow, h]
  · by_cases hn : j < n
    · rw [if_neg hj, markRow_get hn, markRow_get hn]
      have : (j == i) = false := by simp; omega
      simp [this]
    · have e1 : (markRow n M)[j]? = none := by simp [markRow]; omega
      have e2 : (markRow n (fun j => M j || j == i))[j]? = none := by simp [markRow]; omega
      rw [if_neg hj, e1, e2]

/-- a walker in memory: its store, what it has met -/
def WalkerAt (bw bm n : Nat) (lv : Value) (M : Nat → Bool) (w : World) : Prop :=
  w.heap[bw]? = some (.cells #[lv, .slice (some ⟨bm, 0, none⟩) n n] 87 (0, 0)) ∧ w.heap[bm]? = some (.cells (markRow n M) 4 (0, 0))

theorem WalkerAt.below {bw bm n : Nat} {lv : Value} {M : Nat → Bool} {w w' : World} (h : WalkerAt bw bm n lv M w) (hb : Below w.heap.size w w') : WalkerAt bw bm n lv M w' :=
  ⟨(hb.block _ (lt_of_block h.1)).trans h.1, (hb.block _ (lt_of_block h.2)).trans h.2⟩

def VisitEnd (bw bm : Nat) (lv : Value) (l : List Obj) (par : Bool) (i : Nat) (M : Nat → Bool) (w : World) (e : Ending) (w' : World) : Prop :=
  e = .returned (.tuple #[]) ∧ ∃ M', WalkerAt bw bm l.length lv M' w' ∧ (∀ j, j < l.length → (M' j = true ↔ M j = true ∨ Rch l par i j)) ∧ Upd (fun b => b = bm) w w'

/-- link k of those that are followed leads to c -/
def Leads (l : List Obj) (par : Bool) (i k c : Nat) : Prop := c < i ∧ (obj l c).id = nth (follow (obj l i) par) k ∧ edgeB l par i c = true

theorem Right.leads {l : List Obj} (h : Right l) {par : Bool} {i k : Nat} (hi : i < l.length) (hk : k < (follow (obj l i) par).length) : ∃ c, Leads l par i k c := by
  have hm : nth (follow (obj l i) par) k ∈ follow (obj l i) par := by rw [nth_lt hk]; exact List.getElem_mem hk
  obtain ⟨k', hk', e, _⟩ := follow_mem hm
  obtain ⟨c, hc, hid, _⟩ := h.linked hi hk'
  refine ⟨c, hc, by rw [e]; exact hid, ?_⟩
  simp only [edgeB, Bool.and_eq_true, decide_eq_true_eq, List.any_eq_true, beq_iff_eq]
  exact ⟨by omega, _, hm, by rw [e]; exact hid.symm⟩

theorem Right.leads_all {l : List Obj} (h : Right l) {par : Bool} {i j : Nat} (hi : i < l.length) : Rch l par i j ↔ j = i ∨ ∃ k c, k < (follow (obj l i) par).length ∧ Leads l par i k c ∧ Rch l par c j := by
  constructor
  · intro hr
    cases hr with
    | refl => exact .inl rfl
    | step e hr =>
      rename_i c
      have hci := h.edge_lt hi e
      have e' := e
      simp only [edgeB, Bool.and_eq_true, decide_eq_true_eq, List.any_eq_true, beq_iff_eq] at e'
      obtain ⟨hc, x, hx, hxe⟩ := e'
      obtain ⟨k, hk, rfl⟩ := List.getElem_of_mem hx
      exact .inr ⟨k, c, hk, ⟨hci, by rw [nth_lt hk]; exact hxe.symm, e⟩, hr⟩
  · rintro (rfl | ⟨k, c, hk, ⟨_, _, e⟩, hr⟩)
    · exact .refl _
    · exact .step e hr

/-- what is known when k of the links have been followed -/
def MetTo (l : List Obj) (par : Bool) (i k : Nat) (M Mk : Nat → Bool) : Prop :=
  ∀ j, j < l.length → (Mk j = true ↔ M j = true ∨ j = i ∨ ∃ k' c, k' < k ∧ Leads l par i k' c ∧ Rch l par c j)
def ClosedTo (l : List Obj) (par : Bool) (i : Nat) (M : Nat → Bool) : Prop := ∀ a b, a ≤ i → a < l.length → M a = true → edgeB l par a b = true → M b = true

theorem closed_rch {l : List Obj} (h : Right l) {par : Bool} {i j : Nat} {M : Nat → Bool} (hi : i < l.length) (hc : ClosedTo l par i M) (hM : M i = true) (hr : Rch l par i j) : M j = true := by
  have key : ∀ a b, Rch l par a b → a ≤ i → M a = true → M b = true := by
    intro a b hab
    induction hab with
    | refl => exact fun _ h => h
    | step e _ ih =>
      intro ha hMa
      have := h.edge_lt (by omega) e
      exact ih (by omega) (hc _ _ ha (by omega) hMa e)
  exact key i j hr (Nat.le_refl _) hM

theorem metTo_zero (l : List Obj) (par : Bool) (i : Nat) (M : Nat → Bool) : MetTo l par i 0 M (fun j => M j || j == i) := fun j hj => by
  simp

theorem metTo_closed {l : List Obj} (h : Right l) {par : Bool} {i k c : Nat} {M Mk : Nat → Bool} (hi : i < l.length) (hc : ClosedTo l par i M) (hm : MetTo l par i k M Mk) (hci : c < i) : ClosedTo l par c Mk := by
  intro a b hac ha hMa e
  have hb := h.edge_lt ha e
  rcases (hm a ha).1 hMa with h1 | h1 | ⟨k', c', h1, h2, h3⟩
  · exact (hm b (by omega)).2 (.inl (hc a b (by omega) ha h1 e))
  · omega
  · exact (hm b (by omega)).2 (.inr (.inr ⟨k', c', h1, h2, h3.snoc e⟩))

theorem metTo_next {l : List Obj} {par : Bool} {i k c : Nat} {M Mk Mk' : Nat → Bool} (hR : Right l) (hi : i < l.length) (hm : MetTo l par i k M Mk) (hl : Leads l par i k c) (hn : ∀ j, j < l.length → (Mk' j = true ↔ Mk j = true ∨ Rch l par c j)) : MetTo l par i (k + 1) M Mk' := by
  intro j hj
  rw [hn j hj, hm j hj]
  constructor
  · rintro ((h1 | h1 | ⟨k', c', h1, h2, h3⟩) | h1)
    · exact .inl h1
    · exact .inr (.inl h1)
    · exact .inr (.inr ⟨k', c', by omega, h2, h3⟩)
    · exact .inr (.inr ⟨k, c, by omega, hl, h1⟩)
  · rintro (h1 | h1 | ⟨k', c', h1, h2, h3⟩)
    · exact .inl (.inl h1)
    · exact .inl (.inr (.inl h1))
    · by_cases e : k' = k
      · subst e
        have := hR.rising.inj (show c' < l.length by have := h2.1; omega) (show c < l.length by have := hl.1; omega) (h2.2.1.trans hl.2.1.symm)
        subst this
        exact .inr h3
      · exact .inl (.inr (.inr ⟨k', c', by omega, h2, h3⟩))

theorem metTo_end {l : List Obj} (h : Right l) {par : Bool} {i k : Nat} {M Mk : Nat → Bool} (hi : i < l.length) (hk : k = (follow (obj l i) par).length) (hm : MetTo l par i k M Mk) : ∀ j, j < l.length → (Mk j = true ↔ M j = true ∨ Rch l par i j) := by
  intro j hj
  subst hk
  rw [hm j hj, h.leads_all hi]

set_option maxRecDepth 100000 in
set_option maxHeartbeats 4000000 in
theorem visit_any (l : List Obj) (par : Bool) (g : Nat) (hg : Follows g par) (eg : ∀ args w, (callFunc g args).run Try.prog w = .ok (.enter g args) w) (hR : Right l) (S : Nat → Prop) (lv : Value) (bw bm : Nat) (hSm : ∀ b, S b → ¬ b = bm) (hne : bw ≠ bm) :
    ∀ i, i < l.length → (par = true → (obj l i).kind = 3) → ∀ (w : World) (M : Nat → Bool), StoreV S w lv l → WalkerAt bw bm l.length lv M w → ClosedTo l par i M →
      Calls Try.prog 88 #[.pointer (some ⟨bw, 0, none⟩), .int .i64 (obj l i).id, .func (.func g) #[] #[]] w (VisitEnd bw bm lv l par i M w) := by
  intro i
  induction i using Nat.strongRecOn with
  | ind i ih =>
  intro hi hpk w M hst hw hcl
  have hlo := hR.rising.lo_self hi
  have hat := hR.rising.isAt_self hi
  obtain ⟨a, n, cap, la, ln, lc, HN, hlv, h1, h2, h3, h4, h5⟩ := hst.open
  have Hst := Lib.hid hst
  have Hw := Lib.hid hw
  have Hat := Lib.hid (fun x (hx : Below w.heap.size w x) => by have := at_any l lv S (obj l i).id x (hst.below hx) hR.rising; rw [hlo, hat] at this; exact this)
  have HN1 := HN.out.1
  subst hlv
  have hin : i < n := by rw [HN1]; exact hi
  obtain ⟨b, off, rfl, hSb, k0, k1, k2, k3⟩ := h4 (by omega)
  have Hlen := Lib.hid HN1
  have Hi := Lib.hid hi
  have c0 := block_cell (j := 0) hw.1 rfl
  have c1 := block_cell (j := 1) hw.1 rfl
  rw [← HN1] at c1
  clear HN1 hlo hat hst hw h4 h5 k0 k1 k2 k3 hi
  have hi1 : (0 : Int) ≤ (i : Int) := by omega
  have hi2 : (i : Int) < (n : Int) := by omega
  go_enter Try.func88, Try.ntmps88
  go_wp2_with fail
  refine (Hat.out _ (Below.refl _ _)).mono ?_
  rintro e w2 ⟨rfl, hb2⟩
  have hw2 := Hw.out.below hb2
  have d0 := block_cell (j := 0) hw2.1 rfl
  have d1 := block_cell (j := 1) hw2.1 rfl
  have dm := block_cell (j := i) hw2.2 (markRow_get Hi.out)
  have fm := block_free (j := i) hw2.2
  rw [← Hlen.out] at d1
  have Hw2 := Lib.hid hw2
  clear hw2 c0 c1
  cases hM : M i
  · rw [hM] at dm
    have Hpar := Lib.hid (show par = true → 0 < (obj l i).links.length from fun hp => by
      rcases Nat.eq_zero_or_pos (obj l i).links.length with e | e
      · have := zero_law (hR.each i Hi.out) e
        rw [hpk hp] at this; exact absurd this (by decide)
      · exact e)
    obtain ⟨w3, hw3⟩ : ∃ w3 : World, w3 = w2.setCell ⟨bm, i, none⟩ (.bool true) := ⟨_, rfl⟩
    have hu23 : Upd (fun b => b = bm) w2 w3 := by rw [hw3]; exact Upd.setCell (T := fun b => b = bm) (Upd.refl _ _) (fun _ => rfl) _
    have h31 : WalkerAt bw bm l.length (.slice (some ⟨b, off, none⟩) n cap) (fun j => M j || j == i) w3 := by
      refine ⟨hu23.blk Hw2.out.1 hne, ?_⟩
      rw [hw3, block_setCell Hw2.out.2, markRow_set Hi.out]
    have hst3 := (Hst.out.below hb2).upd hu23 hSm
    obtain ⟨a3, n3, cap3, la, ln, lc, HN3, e3, _, _, _, h43, h53⟩ := hst3.open
    cases e3
    obtain ⟨b3, off3, e3, _, k0, k1, k2, k3⟩ := h43 (by omega)
    cases e3
    have x0 := k0 i w3 hin (Below.refl _ _)
    have x1 := k1 i w3 hin (Below.refl _ _)
    have x2 := k2 i w3 hin (Below.refl _ _)
    have x3 := k3 i w3 hin (Below.refl _ _)
    have Ho := Lib.hid (h53 i hin)
    have y0 := block_cell (j := 0) h31.1 rfl
    have Hst3 := Lib.hid hst3
    have H31 := Lib.hid h31
    have Hu23 := Lib.hid hu23
    rw [hw3] at x0 x1 x2 x3 y0
    have Hw3 := Lib.hid hw3
    clear hw3 h31 hst3 hu23 k0 k1 k2 k3 h43 h53 HN3
    go_wp2_with fail
    rw [← Hw3.out]
    refine (hg (obj l i) _ S _ Ho.out Hpar.out).mono ?_
    rintro e w4 ⟨v4, rfl, hv4, hb4⟩
    obtain ⟨⟨p4, c4⟩, rfl⟩ := hv4.shape
    have Hv4 := Lib.hid hv4
    have H41 := Lib.hid (H31.out.below hb4)
    have HB4 := Lib.hid hb4
    have Hst4 := Lib.hid (Hst3.out.below hb4)
    clear x0 x1 x2 x3 y0 d0 d1 dm fm hb4 hv4
    generalize hm : (follow (obj l i) par).length = m at *
    have hm8 : m * 8 ≤ 140737488351232 := by obtain ⟨⟨_, _, hv, _, _, h, _⟩, _⟩ := Hv4.out; cases hv; exact h
    have Hm := Lib.hid hm; clear hm
    go_wp2_with fail
    go_loopw [42] (fun s wr => ∃ (k : Nat) (Mk : Nat → Bool), k ≤ m ∧ s = .int .i64 k ∧ Hid (WalkerAt bw bm l.length (.slice (some ⟨b, off, none⟩) n cap) Mk wr ∧ MetTo l par i k M Mk ∧ Upd (fun b => b = bm) w4 wr)) (fun s _ => m - (intOf s).toNat)
    case atStart => exact ⟨0, _, by omega, rfl, H41.out, metTo_zero l par i M, Upd.refl _ _⟩
    case round =>
      obtain ⟨k, Mk, hk, rfl, HK⟩ := hrel
      by_cases hkm : k < m
      · have hkf : k < (follow (obj l i) par).length := by rw [Hm.out]; exact hkm
        obtain ⟨c, hL⟩ := hR.leads Hi.out hkf
        have hcall := ih c hL.1 (by have := hL.1; have := Hi.out; omega) (fun hp => by subst hp; exact hR.edge_kind Hi.out (hpk rfl) hL.2.2) wr Mk (Hst4.out.upd HK.out.2.2 hSm) HK.out.1 (metTo_closed hR Hi.out hcl HK.out.2.1 hL.1)
        rw [hL.2.1] at hcall
        have Hcall := Lib.hid hcall
        have HL := Lib.hid hL
        obtain ⟨a5, n5, c5, HN5, e5, _, _, _, h5⟩ := (Hv4.out.upd HK.out.2.2 hSm).open
        cases e5
        obtain ⟨b5, off5, rfl, _, hc5⟩ := h5 (by have := Hm.out; omega)
        have hcell := hc5 k wr (by have := Hm.out; omega) (Below.refl _ _)
        clear hcall hL hc5 h5 HN5
        go_wp2_with fail
        refine Hcall.out.mono ?_
        rintro e w5 ⟨rfl, M', hw5, hM', hu5⟩
        have HX := Lib.hid (show WalkerAt bw bm l.length (.slice (some ⟨b, off, none⟩) n cap) M' w5 ∧ MetTo l par i (k + 1) M M' ∧ Upd (fun b => b = bm) w4 w5 from
          ⟨hw5, metTo_next hR Hi.out HK.out.2.1 HL.out hM', HK.out.2.2.trans hu5 (fun _ _ h => h)⟩)
        clear hw5 hM' hu5
        go_wp2_with fail
        go_roundw
        case rel => exact ⟨k + 1, M', by omega, by go_num, HX⟩
        case measure => simp [intOf]; omega
      · obtain rfl : k = m := by omega
        go_wp2_with fail
        go_end0
        refine ⟨rfl, Mk, HK.out.1, metTo_end hR Hi.out Hm.out.symm HK.out.2.1, ?_⟩
        have u1 : Upd (fun b => b = bm) w w2 := ⟨hb2.os, hb2.tape, hb2.output, hb2.size, fun b hb _ => hb2.block b hb⟩
        have u3 : Upd (fun b => b = bm) w3 w4 := ⟨HB4.out.os, HB4.out.tape, HB4.out.output, HB4.out.size, fun b hb _ => HB4.out.block b hb⟩
        exact ((u1.trans Hu23.out (fun _ _ h => h)).trans u3 (fun _ _ h => h)).trans HK.out.2.2 (fun _ _ h => h)
  · rw [hM] at dm
    have HU := Lib.hid (hb2)
    go_wp2_with fail
    go_end0
    refine ⟨rfl, M, Hw2.out, fun j hj => ⟨.inl, ?_⟩, ⟨hb2.os, hb2.tape, hb2.output, hb2.size, fun b hb _ => hb2.block b hb⟩⟩
    rintro (h | h)
    · exact h
    · exact closed_rch hR Hi.out hcl hM h
end Go.Proofs.Ytcppgkhkijejoaa
