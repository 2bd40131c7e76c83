
/- LineP: the plain law of an update's text. No program here. -/
import Derived.Test.YtkaoldnhooojiaaGreatDoorUpdL
import Derived.Test.YtkaoldnhooojiaaGreatDoorCmp
import Derived.Lib.ItoaNum
import Derived.Lib.Join
namespace Go.Proofs.YtkaoldnhooojiaaGreatDoor
open Go.RowKit
set_option linter.unusedVariables false
set_option linter.unusedSimpArgs false

theorem ba_ext {a b : ByteArray} (h : a.data.toList = b.data.toList) : a = b := by
  cases a; cases b; congr; exact Array.toList_inj.1 h
def decB (n : Int) : ByteArray := ⟨(Lib.decDigits n.toNat).toArray⟩
def spB : ByteArray := ⟨#[32]⟩
def semiB : ByteArray := ⟨#[59]⟩
/-- an update in words -/
def lineOne (u : Mv) : ByteArray := ⟨(Lib.join [u.name.data.toList, (decB u.old).data.toList, (decB u.new).data.toList] [32]).toArray⟩ ++ semiB
def textOne (u : Mv) : ByteArray := ((((u.name ++ spB) ++ decB u.old) ++ spB) ++ decB u.new) ++ semiB
theorem one_same (u : Mv) : lineOne u = textOne u := by
  apply ba_ext
  unfold lineOne textOne spB semiB
  simp [Lib.join_cons, Lib.joinTail]
def lineL : List Mv → ByteArray → ByteArray
  | [], s => s
  | u :: l, s => lineL l (s ++ lineOne u)
theorem lineL_snoc (l : List Mv) (u : Mv) : ∀ s, lineL (l ++ [u]) s = lineL l s ++ lineOne u := by
  induction l with
  | nil => intro s; rfl
  | cons v l ih => intro s; exact ih _
/-- the least name that is more than s -/
def atTo (l : List Mv) (s : ByteArray) : Nat → Int
  | 0 => -1
  | k + 1 => if strLt s (mv l k).name = true ∧ (atTo l s k < 0 ∨ strLt (mv l k).name (mv l (atTo l s k).toNat).name = true) then (k : Int) else atTo l s k
theorem atTo_spec (l : List Mv) (s : ByteArray) : ∀ k, (atTo l s k = -1 ∧ ∀ i, i < k → strLt s (mv l i).name = false) ∨
    ∃ a : Nat, a < k ∧ atTo l s k = (a : Int) ∧ strLt s (mv l a).name = true ∧ ∀ i, i < k → strLt s (mv l i).name = true → strLt (mv l i).name (mv l a).name = false
  | 0 => .inl ⟨rfl, fun i hi => absurd hi (by omega)⟩
  | k + 1 => by
    unfold atTo
    rcases atTo_spec l s k with ⟨e, h⟩ | ⟨a, ha, e, h1, h2⟩
    · cases hs : strLt s (mv l k).name
      · rw [if_neg (by simp)]
        refine .inl ⟨e, fun i hi => ?_⟩
        by_cases hk : i = k
        · subst hk; exact hs
        · exact h i (by omega)
      · rw [if_pos ⟨rfl, .inl (by omega)⟩]
        refine .inr ⟨k, by omega, rfl, hs, fun i hi h3 => ?_⟩
        by_cases hk : i = k
        · subst hk; exact strLt_irrefl _
        · rw [h i (by omega)] at h3; cases h3
    · rw [e]
      simp only [Int.toNat_natCast]
      cases hs : strLt s (mv l k).name
      · rw [if_neg (by simp)]
        refine .inr ⟨a, by omega, rfl, h1, fun i hi h3 => ?_⟩
        by_cases hk : i = k
        · subst hk; rw [hs] at h3; cases h3
        · exact h2 i (by omega) h3
      · by_cases hl : strLt (mv l k).name (mv l a).name = true
        case neg =>
          rw [if_neg (fun h => h.2.elim (fun h => by omega) hl)]
          refine .inr ⟨a, by omega, rfl, h1, fun i hi h3 => ?_⟩
          by_cases hk : i = k
          · subst hk; simpa using hl
          · exact h2 i (by omega) h3
        case pos =>
          rw [if_pos ⟨rfl, .inr hl⟩]
          refine .inr ⟨k, by omega, rfl, hs, fun i hi h3 => ?_⟩
          by_cases hk : i = k
          · subst hk; exact strLt_irrefl _
          · cases h4 : strLt (mv l i).name (mv l k).name
            · rfl
            · have := strLt_trans h4 hl
              rw [h2 i (by omega) h3] at this; cases this
def pickAt (l : List Mv) (s : ByteArray) : Nat := (atTo l s l.length).toNat
def textTo (l : List Mv) : Nat → ByteArray × ByteArray
  | 0 => (ByteArray.empty, ByteArray.empty)
  | n + 1 => ((textTo l n).1 ++ textOne (mv l (pickAt l (textTo l n).2)), (mv l (pickAt l (textTo l n).2)).name)
def textL (l : List Mv) : ByteArray := (textTo l l.length).1
def RisesM (d : List Mv) : Prop := d.Pairwise fun a b => strLt a.name b.name = true
theorem empty_less {s : ByteArray} (h : s ≠ ByteArray.empty) : strLt ByteArray.empty s = true := by
  unfold strLt
  rw [ByteArray.toList_eq, ByteArray.toList_eq]
  cases hs : s.data.toList with
  | nil => exact absurd (ba_ext hs) h
  | cons a r => rfl
theorem text_sorted {l d : List Mv} (hp : d.Perm l) (hd : RisesM d) (hn : ∀ u ∈ l, u.name ≠ ByteArray.empty) : ∀ n, n ≤ l.length → textTo l n = (lineL (d.take n) ByteArray.empty, if n = 0 then ByteArray.empty else (mv d (n - 1)).name)
  | 0, _ => rfl
  | n + 1, h => by
    have ih := text_sorted hp hd hn n (by omega)
    have hl := hp.length_eq
    have hnd : n < d.length := by omega
    have hR := List.pairwise_iff_getElem.1 hd
    have hlt : ∀ i j, i < j → j < d.length → strLt (mv d i).name (mv d j).name = true := fun i j hij hj => by
      have := hR i j (by omega) hj hij
      rwa [← mv_lt, ← mv_lt] at this
    have hs : ∀ j, n ≤ j → j < d.length → strLt (textTo l n).2 (mv d j).name = true := fun j hj hjd => by
      rw [ih]
      by_cases h0 : n = 0
      · simp only [if_pos h0]; exact empty_less (hn _ (hp.mem_iff.1 (mv_mem hjd)))
      · simp only [if_neg h0]; exact hlt _ _ (by omega) hjd
    have hs' : ∀ j, j < n → strLt (textTo l n).2 (mv d j).name = false := fun j hj => by
      rw [ih]
      simp only [if_neg (show ¬ n = 0 by omega)]
      by_cases e : j = n - 1
      · rw [e]; exact strLt_irrefl _
      · exact strLt_asymm (hlt j (n - 1) (by omega) (by omega))
    have hpick : mv l (pickAt l (textTo l n).2) = mv d n := by
      generalize (textTo l n).2 = s at hs hs'
      obtain ⟨i, hi, e⟩ := mem_mv (hp.mem_iff.1 (mv_mem hnd))
      rcases atTo_spec l s l.length with ⟨_, h2⟩ | ⟨a, ha, ea, h1, h2⟩
      · have := h2 i hi; rw [e, hs n (Nat.le_refl _) hnd] at this; cases this
      · unfold pickAt
        rw [ea, Int.toNat_natCast]
        obtain ⟨j, hj, ej⟩ := mem_mv (hp.mem_iff.2 (mv_mem ha))
        rw [← ej] at h1 h2 ⊢
        have h3 := h2 i hi (by rw [e]; exact hs n (Nat.le_refl _) hnd)
        rw [e] at h3
        rcases Nat.lt_or_ge j n with hjn | hjn
        · rw [hs' j hjn] at h1; cases h1
        · rcases Nat.lt_or_ge n j with hnj | hnj
          · rw [hlt n j hnj hj] at h3; cases h3
          · rw [show j = n by omega]
    show (_ ++ textOne (mv l (pickAt l (textTo l n).2)), (mv l (pickAt l (textTo l n).2)).name) = _
    rw [hpick, ih]
    simp only [if_neg (show ¬ n + 1 = 0 by omega), Nat.add_sub_cancel]
    rw [List.take_succ_eq_append_getElem hnd, lineL_snoc, one_same, mv_lt hnd]
theorem text_line {l d : List Mv} (hp : d.Perm l) (hd : RisesM d) (hn : ∀ u ∈ l, u.name ≠ ByteArray.empty) : textL l = lineL d ByteArray.empty := by
  unfold textL
  rw [text_sorted hp hd hn _ (Nat.le_refl _), ← hp.length_eq, List.take_length]
/-- sorted and each once: rising -/
theorem rises_of {d : List Mv} (h : d.Pairwise fun a b => strLt b.name a.name = false) (hn : d.Pairwise fun a b => a.name ≠ b.name) : RisesM d := by
  unfold RisesM
  refine (h.and hn).imp fun {a b} hab => ?_
  cases e : strLt a.name b.name
  · exact absurd (strLt_tri e hab.1) hab.2
  · rfl
theorem name_nonempty {s : ByteArray} (h : nameErr s = 0) : s ≠ ByteArray.empty := by
  rintro rfl
  exact absurd h (by decide +kernel)
theorem text_more {l d : List Mv} (hp : d.Perm l) (hd : RisesM d) (hn : ∀ u ∈ l, u.name ≠ ByteArray.empty) {n : Nat} (h : n < l.length) : ∃ i, i < l.length ∧ strLt (textTo l n).2 (mv l i).name = true := by
  have hnd : n < d.length := by have := hp.length_eq; omega
  obtain ⟨i, hi, e⟩ := mem_mv (hp.mem_iff.1 (mv_mem hnd))
  refine ⟨i, hi, ?_⟩
  rw [e, text_sorted hp hd hn n (by omega)]
  by_cases h0 : n = 0
  · simp only [if_pos h0]; exact empty_less (hn _ (hp.mem_iff.1 (mv_mem hnd)))
  · simp only [if_neg h0]
    have := List.pairwise_iff_getElem.1 hd (n - 1) n (by omega) hnd (by omega)
    rwa [← mv_lt, ← mv_lt] at this
theorem mvs_sorted {l : List Mv} (h : MvsOk l) : ∃ d : List Mv, d.Perm l ∧ RisesM d := by
  have hd1 : (l.mergeSort fun a b => !strLt b.name a.name).Perm l := List.mergeSort_perm _ _
  have hd2 : (l.mergeSort fun a b => !strLt b.name a.name).Pairwise fun a b => strLt b.name a.name = false := by
    have := List.pairwise_mergeSort (le := fun a b : Mv => !strLt b.name a.name) (fun a b c h1 h2 => by
      simp only [Bool.not_eq_true'] at h1 h2 ⊢
      exact strLt_ntrans h2 h1) (fun a b => by
      cases e : strLt b.name a.name
      · simp
      · simp [strLt_asymm e]) l
    exact this.imp fun {a b} hab => by simpa using hab
  exact ⟨_, hd1, rises_of hd2 ((h.perm hd1).once)⟩
/-- there is always one that is picked -/
theorem pick_there {l : List Mv} (h : MvsOk l) {n : Nat} (hn : n < l.length) : ∃ a : Nat, a < l.length ∧ atTo l (textTo l n).2 l.length = (a : Int) ∧ textTo l (n + 1) = ((textTo l n).1 ++ textOne (mv l a), (mv l a).name) := by
  obtain ⟨d, hp, hd⟩ := mvs_sorted h
  obtain ⟨i, hi, hs⟩ := text_more hp hd (fun u hu => name_nonempty (h.name u hu)) hn
  rcases atTo_spec l (textTo l n).2 l.length with ⟨_, h2⟩ | ⟨a, ha, ea, _, _⟩
  · rw [h2 i hi] at hs; cases hs
  · refine ⟨a, ha, ea, ?_⟩
    have e : pickAt l (textTo l n).2 = a := by unfold pickAt; rw [ea, Int.toNat_natCast]
    show (_ ++ textOne (mv l (pickAt l (textTo l n).2)), (mv l (pickAt l (textTo l n).2)).name) = _
    rw [e]
/-- in whatever order they stand, the text is one -/
theorem text_perm {l m : List Mv} (h : MvsOk l) (hp : m.Perm l) : textL m = textL l := by
  let d := l.mergeSort fun a b => !strLt b.name a.name
  have hd1 : d.Perm l := List.mergeSort_perm _ _
  have hd2 : d.Pairwise fun a b => strLt b.name a.name = false := by
    have := List.pairwise_mergeSort (le := fun a b : Mv => !strLt b.name a.name) (fun a b c h1 h2 => by
      simp only [Bool.not_eq_true'] at h1 h2 ⊢
      exact strLt_ntrans h2 h1) (fun a b => by
      cases e : strLt b.name a.name
      · simp
      · simp [strLt_asymm e]) l
    exact this.imp fun {a b} hab => by simpa using hab
  have hr : RisesM d := rises_of hd2 ((h.perm hd1).once)
  have hn : ∀ u ∈ l, u.name ≠ ByteArray.empty := fun u hu => name_nonempty (h.name u hu)
  rw [text_line (hd1.trans hp.symm) hr (fun u hu => hn u (hp.mem_iff.1 hu)), text_line hd1 hr hn]
end Go.Proofs.YtkaoldnhooojiaaGreatDoor
