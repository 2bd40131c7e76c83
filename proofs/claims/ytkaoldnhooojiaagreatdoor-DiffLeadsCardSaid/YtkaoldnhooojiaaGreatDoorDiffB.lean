
/- DiffB: walks of diff.names, diff.rises, diff.both. -/
import Derived.Test.YtkaoldnhooojiaaGreatDoorDiffP
import Derived.Test.YtkaoldnhooojiaaGreatDoorRefB
namespace Go.Proofs.YtkaoldnhooojiaaGreatDoor
open Go.RowKit
set_option linter.unusedVariables false
set_option linter.unusedSimpArgs false

set_option maxRecDepth 100000 in
set_option maxHeartbeats 1000000 in
theorem dnames_any (l : List Rf) (v : Value) (S : Nat → Prop) (w : World) (h : RefsV S w v l) :
    Calls Tryz.prog 91 #[v] w fun e w' => e = .returned (.int .i64 (namesE l)) ∧ Below w.heap.size w w' := by
  obtain ⟨a, n, cap, HN, rfl, h1, h2, h3, h4, h5⟩ := h.open
  have H5 := Lib.hid h5
  clear h h5
  obtain ⟨R, hR, hR1, _⟩ := cls_plain w
  have hRb := hR.below
  have hRn := hR.next
  have HE := Lib.hid (show namesE l = scan (fun k => nameErr (rf l k).name) n by rw [HN.out]; rfl)
  go_enter Tryz.func91, Tryz.ntmps91
  go_wp2_with fail
  go_loopw [8] (fun i wr => ∃ k : Nat, k ≤ n ∧ i = .int .i64 k ∧ Hid (scan (fun k => nameErr (rf l k).name) k = 0) ∧ In R wr) (fun i _ => n - (intOf i).toNat)
  case atStart => exact ⟨0, by omega, rfl, rfl, hR1⟩
  case round =>
    obtain ⟨k, hk, rfl, Hs, hRw⟩ := hrel
    clear hR1
    by_cases hlt : k < n
    · obtain ⟨b, off, rfl, hb, k0, k1⟩ := h4 (by omega)
      have x0 := k0 k wr hlt (hRb _ hRw)
      have x1 := k1 k wr hlt (hRb _ hRw)
      clear h4 k0 k1
      obtain ⟨Q, hQ, hQ1, hy⟩ := cls_box wr #[.string (rf l k).name, .int .i64 (rf l k).id] 40
      have y0 := hy 0 _ rfl _ hQ1
      have hR2 := hRn _ _ hRw (hQ.below _ hQ1)
      have hi1 : (0 : Int) ≤ (k : Int) := by omega
      have hi2 : (k : Int) < (n : Int) := by omega
      have Hna := Lib.hid (fun x => name_any (rf l k).name x (H5.out k hlt).2)
      clear hy
      by_cases hz : nameErr (rf l k).name = 0
      · have Hz := Lib.hid hz
        rw [hz] at Hna
        clear hz
        go_wp2_with fail
        refine (Hna.out _).mono ?_
        rintro e w' ⟨rfl, rfl⟩
        go_wp2_with fail
        go_roundw
        case rel => exact ⟨k + 1, by omega, by go_num, scan_next Hs.out Hz.out, hR2⟩
        case measure => simp [intOf]; omega
      · have HF := Lib.hid (show namesE l = nameErr (rf l k).name by rw [HE.out]; exact scan_hit Hs.out hz hlt)
        have hq : (nameErr (rf l k).name != 0) = true := by simpa using hz
        clear hz
        generalize nameErr (rf l k).name = c at *
        go_wp2_with fail
        refine (Hna.out _).mono ?_
        rintro e w' ⟨rfl, rfl⟩
        go_wp2_with fail
        go_ret
        exact ⟨ret_int HF.out.symm, hRb _ hR2⟩
    · obtain rfl : k = n := by omega
      have HF := Lib.hid (show namesE l = 0 by rw [HE.out]; exact Hs.out)
      go_wp2_with fail
      go_ret
      exact ⟨ret_int HF.out.symm, hRb _ hRw⟩

set_option maxRecDepth 100000 in
set_option maxHeartbeats 1000000 in
theorem drises_any (l : List Rf) (v : Value) (S : Nat → Prop) (w : World) (h : RefsV S w v l) :
    Calls Tryz.prog 94 #[v] w fun e w' => e = .returned (.bool (risesB l)) ∧ Below w.heap.size w w' := by
  obtain ⟨a, n, cap, HN, rfl, h1, h2, h3, h4, h5⟩ := h.open
  clear h h5
  obtain ⟨R, hR, hR1, _⟩ := cls_plain w
  have hRb := hR.below
  have hRn := hR.drewN
  have HF := Lib.hid (fun i (hi : i < n) (h0 : 0 < i) h => rises_not (l := l) (i := i) (by rw [← HN.out]; exact hi) h0 h)
  have HT := Lib.hid (fun (h : ∀ i, i < n → 0 < i → stepB l i = true) => rises_all (l := l) (by rw [← HN.out]; exact h))
  go_enter Tryz.func94, Tryz.ntmps94
  go_wp2_with fail
  go_loopw [3] (fun i wr => ∃ k : Nat, 1 ≤ k ∧ (k ≤ n ∨ k = 1) ∧ i = .int .i64 k ∧ Hid (∀ j, j < k → 0 < j → stepB l j = true) ∧ In R wr) (fun i _ => n - (intOf i).toNat)
  case atStart => exact ⟨1, by omega, .inr rfl, rfl, fun j h1 h2 => by omega, hR1⟩
  case round =>
    obtain ⟨k, hk1, hk, rfl, Hs, hRw⟩ := hrel
    clear hR1
    by_cases hlt : k < n
    · obtain ⟨b, off, rfl, hb, k0, k1⟩ := h4 (by omega)
      have x0 := fun x (hx : In R x) => k0 k x hlt (hRb _ hx)
      have x1 := fun x (hx : In R x) => k0 (k - 1) x (by omega) (hRb _ hx)
      clear h4 k0 k1
      have hi1 : (0 : Int) ≤ (k : Int) := by omega
      have hi2 : (k : Int) < (n : Int) := by omega
      have hm1 : (1 : Int) ≤ (k : Int) := by omega
      have hm2 : (k : Int) - 1 < (n : Int) := by omega
      have hm3 : (0 : Int) ≤ (k : Int) - 1 := by omega
      have htn : ((k : Int) - 1).toNat = k - 1 := by omega
      have hwr := wrap_in (n := (k : Int) - 1) (by omega)
      have Hst := Lib.hid (show stepB l k = Op.bytesLess (rf l (k - 1)).name.toList (rf l k).name.toList from rfl)
      cases hq : Op.bytesLess (rf l (k - 1)).name.toList (rf l k).name.toList
      · have HK := Lib.hid (HF.out k hlt (by omega) (by rw [Hst.out]; exact hq))
        go_wp2_with fail
        go_quiet (fail)
        go_wp2_with fail
        go_ret
        exact ⟨by rw [HK.out]; rfl, hRb _ (hRn _ _ hRw)⟩
      · have HK := Lib.hid (show ∀ j, j < k + 1 → 0 < j → stepB l j = true from fun j h1 h2 => by
          by_cases e : j = k
          · subst e; rw [Hst.out]; exact hq
          · exact Hs.out j (by omega) h2)
        go_wp2_with fail
        go_quiet (fail)
        go_wp2_with fail
        go_roundw
        case rel => exact ⟨k + 1, by omega, .inl (by omega), by go_num, HK.out, hRn _ _ hRw⟩
        case measure => simp [intOf]; omega
    · have HK := Lib.hid (HT.out fun i hi h0 => Hs.out i (by omega) h0)
      go_wp2_with fail
      go_ret
      exact ⟨by rw [HK.out]; rfl, hRb _ hRw⟩

set_option maxRecDepth 100000 in
set_option maxHeartbeats 1000000 in
theorem dboth1_any (l : List Rf) (v : Value) (S : Nat → Prop) (w : World) (h : RefsV S w v l) :
    Calls Tryz.prog 93 #[v] w fun e w' => e = .returned (.bool (!risesB l)) ∧ Below w.heap.size w w' := by
  have H := Lib.hid (drises_any l v S w h)
  obtain ⟨p, rfl⟩ := h.shape
  clear h
  generalize risesB l = r at *
  go_enter Tryz.func93, Tryz.ntmps93
  go_wp2_with fail
  refine H.out.mono ?_
  rintro e w' ⟨rfl, hb⟩
  go_wp2_with fail
  go_ret
  exact ⟨rfl, hb⟩

set_option maxRecDepth 100000 in
set_option maxHeartbeats 1000000 in
theorem indexFuncL_any (l m : List Rf) (v u : Value) (S S' : Nat → Prop) (b : Nat) (w : World) (h : RefsV S w v l) (hm : RefsV S' w u m) (hb : w.heap[b]? = some (.cells #[v, u] 22 (0, 0))) :
    Calls Tryz.prog 125 #[.slice (some ⟨b, 0, none⟩) 2 2, .func (.func 93) #[] #[]] w fun e w' => e = .returned (.int .i64 (if risesB l = true then if risesB m = true then -1 else 1 else 0)) ∧ Below w.heap.size w w' := by
  obtain ⟨R, hR, hR1, _⟩ := cls_plain w
  have hRb := hR.below
  have hRn := hR.next
  have H1 := Lib.hid (fun x (hx : In R x) => dboth1_any l v S x (h.below (hRb _ hx)))
  have H2 := Lib.hid (fun x (hx : In R x) => dboth1_any m u S' x (hm.below (hRb _ hx)))
  have hbw := lt_of_block hb
  have c0 := fun x (hx : In R x) => block_cell (w := x) (j := 0) (((hRb _ hx).block _ hbw).trans hb) rfl
  have c1 := fun x (hx : In R x) => block_cell (w := x) (j := 1) (((hRb _ hx).block _ hbw).trans hb) rfl
  obtain ⟨p, rfl⟩ := h.shape
  obtain ⟨q, rfl⟩ := hm.shape
  clear h hm hb
  have eg : ∀ args w, (callFunc 93 args).run Tryz.prog w = .ok (.enter 93 args) w := fun _ _ => rfl
  generalize risesB l = rl at *
  generalize risesB m = rm at *
  go_enter Tryz.func125, Tryz.ntmps125
  go_wp2_with fail
  go_loopw [8] (fun i wr => In R wr ∧ (i = .int .i64 0 ∨ (i = .int .i64 1 ∧ rl = true) ∨ (i = .int .i64 2 ∧ rl = true ∧ rm = true))) (fun i _ => 2 - (intOf i).toNat)
  case atStart => exact ⟨hR1, .inl rfl⟩
  case round =>
    obtain ⟨hRw, rfl | ⟨rfl, rfl⟩ | ⟨rfl, rfl, rfl⟩⟩ := hrel
    · clear hR1
      have x0 := c0 _ hRw
      cases rl
      · go_wp2_with fail
        refine (H1.out _ hRw).mono ?_
        rintro e w' ⟨rfl, hb⟩
        have hR2 := hRn _ _ hRw hb
        go_wp2_with fail
        go_ret
        exact ⟨rfl, hRb _ hR2⟩
      · go_wp2_with fail
        refine (H1.out _ hRw).mono ?_
        rintro e w' ⟨rfl, hb⟩
        have hR2 := hRn _ _ hRw hb
        go_wp2_with fail
        go_roundw
        case rel => exact ⟨hR2, .inr (.inl ⟨rfl, by simp⟩)⟩
        case measure => simp [intOf]
    · clear hR1
      have x0 := c1 _ hRw
      cases rm
      · go_wp2_with fail
        refine (H2.out _ hRw).mono ?_
        rintro e w' ⟨rfl, hb⟩
        have hR2 := hRn _ _ hRw hb
        go_wp2_with fail
        go_ret
        exact ⟨rfl, hRb _ hR2⟩
      · go_wp2_with fail
        refine (H2.out _ hRw).mono ?_
        rintro e w' ⟨rfl, hb⟩
        have hR2 := hRn _ _ hRw hb
        go_wp2_with fail
        go_roundw
        case rel => exact ⟨hR2, .inr (.inr ⟨rfl, by simp⟩)⟩
        case measure => simp [intOf]
    · go_wp2_with fail
      go_ret
      exact ⟨rfl, hRb _ hRw⟩

set_option maxRecDepth 100000 in
set_option maxHeartbeats 1000000 in
theorem containsFuncL_any (l m : List Rf) (v u : Value) (S S' : Nat → Prop) (b : Nat) (w : World) (h : RefsV S w v l) (hm : RefsV S' w u m) (hb : w.heap[b]? = some (.cells #[v, u] 22 (0, 0))) :
    Calls Tryz.prog 92 #[.slice (some ⟨b, 0, none⟩) 2 2, .func (.func 93) #[] #[]] w fun e w' => e = .returned (.bool (!(risesB l && risesB m))) ∧ Below w.heap.size w w' := by
  have H := Lib.hid (indexFuncL_any l m v u S S' b w h hm hb)
  clear h hm hb
  generalize risesB l = rl at *
  generalize risesB m = rm at *
  cases rl <;> cases rm
  all_goals
    simp only [if_true, if_false, Bool.false_eq_true] at H
    go_enter Tryz.func92, Tryz.ntmps92
    go_wp2_with fail
    refine H.out.mono ?_
    rintro e w' ⟨rfl, hb⟩
    go_wp2_with fail
    go_ret
    exact ⟨rfl, hb⟩

set_option maxRecDepth 100000 in
set_option maxHeartbeats 4000000 in
theorem dboth_any (l m : List Rf) (v u : Value) (S S' : Nat → Prop) (b : Nat) (w : World) (h : RefsV S w v l) (hm : RefsV S' w u m) (hb : w.heap[b]? = some (.cells #[v, u] 22 (0, 0))) :
    Calls Tryz.prog 50 #[.slice (some ⟨b, 0, none⟩) 2 2] w fun e w' => e = .returned (.int .i64 (listsE l m)) ∧ Below w.heap.size w w' := by
  obtain ⟨R, hR, hR1, _⟩ := cls_plain w
  have hRb := hR.below
  have hRn := hR.next
  have hbw := lt_of_block hb
  have H1 := Lib.hid (fun x (hx : In R x) => dnames_any l v S x (h.below (hRb _ hx)))
  have H2 := Lib.hid (fun x (hx : In R x) => dnames_any m u S' x (hm.below (hRb _ hx)))
  have H3 := Lib.hid (fun x (hx : In R x) => containsFuncL_any l m v u S S' b x (h.below (hRb _ hx)) (hm.below (hRb _ hx)) (((hRb _ hx).block _ hbw).trans hb))
  have c0 := fun x (hx : In R x) => block_cell (w := x) (j := 0) (((hRb _ hx).block _ hbw).trans hb) rfl
  have c1 := fun x (hx : In R x) => block_cell (w := x) (j := 1) (((hRb _ hx).block _ hbw).trans hb) rfl
  have HE := Lib.hid (show listsE l m = if 8 < l.length ∨ 8 < m.length then 2 else if namesE l ≠ 0 then namesE l else if namesE m ≠ 0 then namesE m else if risesB l = true ∧ risesB m = true then 0 else 4 from rfl)
  have hN := h.open
  have hM := hm.open
  obtain ⟨pa, n, pc, HN, rfl, hc1, hc2, hc3, _⟩ := hN
  obtain ⟨qa, n', qc, HM, rfl, hd1, hd2, hd3, _⟩ := hM
  rw [← HN.out, ← HM.out] at HE
  clear h hm hb
  generalize risesB l = rl at *
  generalize risesB m = rm at *
  generalize namesE l = nl at *
  generalize namesE m = nm at *
  go_enter Tryz.func50, Tryz.ntmps50
  go_wp2_with fail
  go_loopw [10] (fun i wr => In R wr ∧ (i = .int .i64 0 ∨ (i = .int .i64 1 ∧ n ≤ 8) ∨ (i = .int .i64 2 ∧ n ≤ 8 ∧ n' ≤ 8))) (fun i _ => 2 - (intOf i).toNat)
  case atStart => exact ⟨hR1, .inl rfl⟩
  case round =>
    obtain ⟨hRw, rfl | ⟨rfl, h8⟩ | ⟨rfl, h8, h9⟩⟩ := hrel
    · clear hR1
      have x0 := c0 _ hRw
      by_cases h8 : 8 < n
      · have HF := Lib.hid (show listsE l m = 2 by rw [HE.out, if_pos (.inl h8)])
        go_wp2_with fail
        go_ret
        exact ⟨ret_int HF.out.symm, hRb _ hRw⟩
      · go_wp2_with fail
        go_roundw
        case rel => exact ⟨hRw, .inr (.inl ⟨rfl, by omega⟩)⟩
        case measure => simp [intOf]
    · clear hR1
      have x0 := c1 _ hRw
      by_cases h9 : 8 < n'
      · have HF := Lib.hid (show listsE l m = 2 by rw [HE.out, if_pos (.inr h9)])
        go_wp2_with fail
        go_ret
        exact ⟨ret_int HF.out.symm, hRb _ hRw⟩
      · go_wp2_with fail
        go_roundw
        case rel => exact ⟨hRw, .inr (.inr ⟨rfl, h8, by omega⟩)⟩
        case measure => simp [intOf]
    · clear hR1
      rw [if_neg (by omega)] at HE
      go_wp2_with fail
      go_loopw [20] (fun i wx => In R wx ∧ (i = .int .i64 0 ∨ (i = .int .i64 1 ∧ nl = 0) ∨ (i = .int .i64 2 ∧ nl = 0 ∧ nm = 0))) (fun i _ => 2 - (intOf i).toNat)
      case atStart => exact ⟨hRw, .inl rfl⟩
      case round =>
        clear hRw
        obtain ⟨hRx, rfl | ⟨rfl, rfl⟩ | ⟨rfl, rfl, rfl⟩⟩ := hrel
        · have x0 := c0 _ hRx
          by_cases h1 : nl = 0
          · subst h1
            go_wp2_with fail
            refine (H1.out _ hRx).mono ?_
            rintro e w' ⟨rfl, hb⟩
            have hR2 := hRn _ _ hRx hb
            go_wp2_with fail
            go_roundw
            case rel => exact ⟨hR2, .inr (.inl ⟨rfl, by simp⟩)⟩
            case measure => simp [intOf]
          · have HF := Lib.hid (show listsE l m = nl by rw [HE.out, if_pos h1])
            have hq : (nl != 0) = true := by simpa using h1
            clear h1
            go_wp2_with fail
            refine (H1.out _ hRx).mono ?_
            rintro e w' ⟨rfl, hb⟩
            have hR2 := hRn _ _ hRx hb
            go_wp2_with fail
            go_ret
            exact ⟨ret_int HF.out.symm, hRb _ hR2⟩
        · have x0 := c1 _ hRx
          rw [if_neg (by simp)] at HE
          by_cases h1 : nm = 0
          · subst h1
            go_wp2_with fail
            refine (H2.out _ hRx).mono ?_
            rintro e w' ⟨rfl, hb⟩
            have hR2 := hRn _ _ hRx hb
            go_wp2_with fail
            go_roundw
            case rel => exact ⟨hR2, .inr (.inr ⟨rfl, by simp⟩)⟩
            case measure => simp [intOf]
          · have HF := Lib.hid (show listsE l m = nm by rw [HE.out, if_pos h1])
            have hq : (nm != 0) = true := by simpa using h1
            clear h1
            go_wp2_with fail
            refine (H2.out _ hRx).mono ?_
            rintro e w' ⟨rfl, hb⟩
            have hR2 := hRn _ _ hRx hb
            go_wp2_with fail
            go_ret
            exact ⟨ret_int HF.out.symm, hRb _ hR2⟩
        · rw [if_neg (by simp), if_neg (by simp)] at HE
          cases rl <;> cases rm
          all_goals
            have HF := Lib.hid HE.out
            simp only [if_true, if_false, Bool.false_eq_true, and_self, and_true, true_and, and_false, false_and] at HF
            simp only [Bool.and_true, Bool.and_false, Bool.true_and, Bool.false_and, Bool.not_true, Bool.not_false] at H3
            go_wp2_with fail
            refine (H3.out _ hRx).mono ?_
            rintro e w' ⟨rfl, hb⟩
            have hR2 := hRn _ _ hRx hb
            go_wp2_with fail
            go_ret
            exact ⟨ret_int HF.out.symm, hRb _ hR2⟩
end Go.Proofs.YtkaoldnhooojiaaGreatDoor
