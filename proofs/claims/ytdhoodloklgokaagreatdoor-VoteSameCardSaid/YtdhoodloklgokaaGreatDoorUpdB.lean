
/- Walks: refs moved: the search for a name, put, move, each, Raw, Apply. -/
import Derived.Test.YtdhoodloklgokaaGreatDoorRowR
import Derived.Test.YtdhoodloklgokaaGreatDoorCmp
import Derived.Test.YtdhoodloklgokaaGreatDoorUpdA
import Derived.Test.YtdhoodloklgokaaGreatDoorWalkB
import Derived.Test.YtdhoodloklgokaaGreatDoorShelf
import Derived.Deep.RegionHeld3
namespace Go.Proofs.YtdhoodloklgokaaGreatDoor
open Go.RowKit
set_option linter.unusedVariables false
set_option linter.unusedSimpArgs false

set_option maxHeartbeats 400000 in
theorem put1_any (r : Rf) (s : ByteArray) (w : World) :
    Calls Tryz.prog 273 #[.agg #[.string r.name, .int .i64 r.id], .string s] w fun e w' => e = .returned (.int .i64 (cmpS r.name s)) ∧ Below w.heap.size w w' := by
  have hb1 : Below w.heap.size w (w.alloc (.cells #[.string r.name, .int .i64 r.id] 62)) := (Below.refl _ _).alloc (Nat.le_refl _) _
  have HC := Lib.hid (fun x => Tryz.strings_Compare r.name s x)
  unfold cmpS
  generalize Lib.compareBytes r.name.data.toList s.data.toList = c at *
  go_enter Tryz.func273, Tryz.ntmps273
  go_wp2_with fail
  refine (HC.out _).mono ?_
  rintro e w' ⟨rfl, hw⟩
  subst hw
  go_wp2_with fail
  go_ret
  exact ⟨rfl, hb1⟩

theorem loR_eq {l : List Rf} {s : ByteArray} {i : Nat} (hi : i ≤ l.length) (h1 : ∀ j, j < i → strLt (rf l j).name s = true) (h2 : i < l.length → strLt (rf l i).name s = false) : loR l s = i := by
  unfold loR
  induction l generalizing i with
  | nil => simp at hi; subst hi; rfl
  | cons x l ih =>
    cases i with
    | zero =>
      have := h2 (by simp)
      rw [List.takeWhile_cons]
      have e : rf (x :: l) 0 = x := rfl
      rw [e] at this
      rw [this]; rfl
    | succ i =>
      have := h1 0 (by omega)
      have e : rf (x :: l) 0 = x := rfl
      rw [e] at this
      rw [List.takeWhile_cons, this]
      simp only [if_true, List.length_cons]
      rw [ih (i := i) (by simpa using hi) (fun j hj => h1 (j + 1) (by omega)) (fun h => h2 (by simpa using h))]

/-- is the name there? -/
def isRB (l : List Rf) (s : ByteArray) : Bool := decide (loR l s < l.length) && (cmpS (rf l (loR l s)).name s == 0)

set_option maxRecDepth 100000 in
set_option maxHeartbeats 2000000 in
theorem searchR_any (l : List Rf) (v : Value) (S : Nat → Prop) (s : ByteArray) (w : World) (h : RefsV S w v l) (hr : Asc l) :
    Calls Tryz.prog 272 #[v, .string s, .func (.func 273) #[] #[]] w fun e w' => e = .returned (.tuple #[.int .i64 (loR l s), .bool (isRB l s)]) ∧ Below w.heap.size w w' := by
  obtain ⟨a, n, cap, HN, rfl, h1, h2, h3, h4, h5⟩ := h.open
  clear h h5
  obtain ⟨R, hR, hR1, _⟩ := cls_plain w
  have hRb := hR.below
  have hRn := hR.next
  have Hlo := Lib.hid (fun i (hi : i ≤ n) h1 h2 => loR_eq (l := l) (s := s) (i := i) (by rw [← HN.out]; exact hi) h1 h2)
  have Hr := Lib.hid (asc_iff.1 hr)
  clear hr
  go_enter Tryz.func272, Tryz.ntmps272
  go_wp2_with fail
  go_loopg [9, 10] n (fun kx s9 s10 wr => ∃ i j : Nat, s9 = .int .i64 i ∧ s10 = .int .i64 j ∧ i ≤ j ∧ j ≤ n ∧ j - i ≤ kx ∧ In R wr ∧
    Hid ((∀ t, t < i → strLt (rf l t).name s = true) ∧ (∀ t, j ≤ t → t < n → strLt (rf l t).name s = false)))
  case atStart => exact ⟨0, n, rfl, rfl, by omega, by omega, by omega, hR1, ⟨fun t ht => absurd ht (by omega), fun t h1 h2 => by omega⟩⟩
  case round =>
    clear hR1
    obtain ⟨i, j, rfl, rfl, hij, hjn, hg, hRw, I⟩ := hrel
    by_cases hlt : i < j
    · obtain ⟨b, off, rfl, hb, k0, k1⟩ := h4 (by omega)
      clear h4
      have m1 : ((i + j) / 2 : Nat) < n := by omega
      have x0 := k0 ((i + j) / 2) wr m1 (hRb _ hRw)
      have x1 := k1 ((i + j) / 2) wr m1 (hRb _ hRw)
      clear k0 k1
      have Hc := Lib.hid (cmpS_lt (rf l ((i + j) / 2)).name s)
      by_cases hc : cmpS (rf l ((i + j) / 2)).name s < 0
      · have HC := Lib.hid (Hc.out.1 hc)
        have hc1 : decide (cmpS (rf l ((i + j) / 2)).name s < 0) = true := decide_eq_true hc
        clear hc
        go_wp2_with (go_at_call 273; refine (put1_any _ _ _).mono ?_; rintro e w' ⟨rfl, hb2⟩; have hR2 := hRn _ _ hRw hb2)
        go_roundg (j - ((i + j) / 2 + 1))
        case measure => omega
        case rel =>
          have I2 : Hid ((∀ t, t < (i + j) / 2 + 1 → strLt (rf l t).name s = true) ∧ (∀ t, j ≤ t → t < n → strLt (rf l t).name s = false)) := ⟨fun t ht => by
            by_cases e : t = (i + j) / 2
            · subst e; exact HC.out
            · exact strLt_trans (Hr.out t ((i + j) / 2) (by omega) (by have := HN.out; omega)) HC.out, I.out.2⟩
          exact ⟨(i + j) / 2 + 1, j, by rw [show ((i : Int) + (j : Int)) / 2 + 1 = (((i + j) / 2 + 1 : Nat) : Int) by omega], rfl, by omega, hjn, Nat.le_refl _, hR2, I2⟩
      · have HC := Lib.hid (show strLt (rf l ((i + j) / 2)).name s = false by
          cases e : strLt (rf l ((i + j) / 2)).name s
          · rfl
          · exact absurd (Hc.out.2 e) hc)
        have hc1 : decide (cmpS (rf l ((i + j) / 2)).name s < 0) = false := decide_eq_false hc
        clear hc
        go_wp2_with (go_at_call 273; refine (put1_any _ _ _).mono ?_; rintro e w' ⟨rfl, hb2⟩; have hR2 := hRn _ _ hRw hb2)
        go_roundg ((i + j) / 2 - i)
        case measure => omega
        case rel =>
          have I2 : Hid ((∀ t, t < i → strLt (rf l t).name s = true) ∧ (∀ t, (i + j) / 2 ≤ t → t < n → strLt (rf l t).name s = false)) := ⟨I.out.1, fun t ht htn => by
            by_cases e : t = (i + j) / 2
            · subst e; exact HC.out
            · cases e2 : strLt (rf l t).name s
              · rfl
              · have := strLt_trans (Hr.out ((i + j) / 2) t (by omega) (by have := HN.out; omega)) e2
                rw [HC.out] at this; cases this⟩
          exact ⟨i, (i + j) / 2, rfl, by rw [show ((i : Int) + (j : Int)) / 2 = (((i + j) / 2 : Nat) : Int) by omega], by omega, by omega, Nat.le_refl _, hR2, I2⟩
    · obtain rfl : j = i := by omega
      have HL := Lib.hid (Hlo.out j hjn I.out.1 (fun h => I.out.2 j (Nat.le_refl _) (by have := HN.out; omega)))
      by_cases hn : j < n
      · obtain ⟨b, off, rfl, hb, k0, k1⟩ := h4 (by omega)
        clear h4
        have x0 := k0 j wr hn (hRb _ hRw)
        have x1 := k1 j wr hn (hRb _ hRw)
        clear k0 k1
        have Hn := Lib.hid (show j < l.length by have := HN.out; omega)
        cases hq : (cmpS (rf l j).name s == 0)
        all_goals
          have HB := Lib.hid (show isRB l s = (cmpS (rf l j).name s == 0) by unfold isRB; rw [HL.out]; simp [Hn.out])
          rw [hq] at HB
          go_wp2_with (go_at_call 273; refine (put1_any _ _ _).mono ?_; rintro e w' ⟨rfl, hb2⟩; have hR2 := hRn _ _ hRw hb2)
          go_ret2
          exact ⟨ret_ib (congrArg _ HL.out.symm) HB.out.symm, hRb _ hR2⟩
      · have HB := Lib.hid (show isRB l s = false by unfold isRB; rw [HL.out, ← HN.out]; simp [hn])
        go_wp2
        go_ret2
        exact ⟨ret_ib (congrArg _ HL.out.symm) HB.out.symm, hRb _ hRw⟩

/-- a mover in block J -/
def MoverAt (B J : Nat) (ov : Value) (force : Bool) (w : World) (l : List Rf) : Prop :=
  ∃ v, OwnR B w v l ∧ v.ownBlock ≠ some J ∧ w.heap[J]? = some (.cells #[v, ov, .bool force] 230 (0, 0))
theorem MoverAt.below {B J : Nat} {ov : Value} {force : Bool} {w w' : World} {l : List Rf} (h : MoverAt B J ov force w l) (hb : Below w.heap.size w w') : MoverAt B J ov force w' l := by
  obtain ⟨v, h1, h2, h3⟩ := h
  exact ⟨v, h1.below hb, h2, (hb.block _ (lt_of_block h3)).trans h3⟩

/-- what is laid in the mover's first field -/
theorem mover_end {B J : Nat} {ov : Value} {force : Bool} {w xo w9 : World} {v v' : Value} {l m : List Rf} (hB : B ≤ J) (hJw : J < w.heap.size) (hown : OwnR B w v l) (hvJ : v.ownBlock ≠ some J) (hcJ : w.heap[J]? = some (.cells #[v, ov, .bool force] 230 (0, 0)))
    (hb : Below w.heap.size w xo) (hG : OwnR B w9 v' m) (hu : Upd (fun b => v.ownBlock = some b) xo w9) (hat : v'.ownBlock = v.ownBlock ∨ ∃ k, v'.ownBlock = some k ∧ xo.heap.size ≤ k) :
    MoverAt B J ov force (w9.setCell ⟨J, 0, none⟩ v') m ∧ Below B w (w9.setCell ⟨J, 0, none⟩ v') := by
  have h1 := hb.size
  have hJ9 : w9.heap[J]? = some (.cells #[v, ov, .bool force] 230 (0, 0)) := hu.blk ((hb.block _ hJw).trans hcJ) hvJ
  have hu2 : Upd (fun b => b = J) w9 (w9.setCell ⟨J, 0, none⟩ v') := (Upd.refl (fun b => b = J) w9).setCell (p := ⟨J, 0, none⟩) (fun _ => rfl) _
  have hv' : v'.ownBlock ≠ some J := by
    rcases hat with h | ⟨k, h, hk⟩
    · rw [h]; exact hvJ
    · rw [h]; intro e; cases e; omega
  refine ⟨⟨v', hG.upd hu2 (fun g hg e => hv' (by rw [hg, e])), hv', block_setCell (j := 0) hJ9 v'⟩, ?_⟩
  exact (hb.mono (by omega)).trans ((hu.below (by omega) (fun b hb => (hown.block hb).1)).trans (hu2.below (B := B) (by have := hu.size; omega) (fun b e => by omega)))
end Go.Proofs.YtdhoodloklgokaaGreatDoor
