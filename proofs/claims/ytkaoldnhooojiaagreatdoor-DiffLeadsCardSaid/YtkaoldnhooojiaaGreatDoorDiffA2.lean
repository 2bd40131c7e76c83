
/- DiffA2: diff.Raw, diff.Objects, DiffOf. -/
import Derived.Test.YtkaoldnhooojiaaGreatDoorDiffA
namespace Go.Proofs.YtkaoldnhooojiaaGreatDoor
open Go.RowKit
set_option linter.unusedVariables false
set_option linter.unusedSimpArgs false
/-- what a function value with two captured places does with the objects of a list, one after the other -/
structure DoesC (g : Nat) (c1 c2 : Value) (l : List Obj) (w0 : World) (I : Nat → World → Prop) (err : Nat → Int) : Prop where
  enter : ∀ args w, (callFunc g args).run Tryz.prog w = .ok (.enter g args) w
  below : ∀ k x, I k x → Below w0.heap.size w0 x
  next : ∀ k x y, I k x → Below x.heap.size x y → I k y
  step : ∀ k x (lv : Value) (S : Nat → Prop), k < l.length → scan err k = 0 → I k x → ObjIs S x (obj l k) lv →
    Calls Tryz.prog g #[.agg #[.int .i64 (obj l k).id, .int .i64 (obj l k).kind, lv, .string (obj l k).text], c1, c2] x fun e w' => e = .returned (.int .i64 (err k)) ∧ Below w0.heap.size w0 w' ∧ (err k = 0 → I (k + 1) w')

set_option maxRecDepth 100000 in
set_option maxHeartbeats 2000000 in
theorem eachC_any {g : Nat} {c1 c2 : Value} {l : List Obj} {w0 w : World} {I : Nat → World → Prop} {err : Nat → Int} (hd : DoesC g c1 c2 l w0 I err) (lv : Value) (S : Nat → Prop) (h : StoreV S w0 lv l) (h0 : I 0 w) :
    Calls Tryz.prog 104 #[lv, .func (.func g) #[] #[c1, c2]] w fun e w' => e = .returned (.int .i64 (scan err l.length)) ∧ Below w0.heap.size w0 w' ∧ (scan err l.length = 0 → I l.length w') := by
  have h' := h
  obtain ⟨a, n, cap, la, ln, lc, HN, rfl, h1, h2, h3, h4, h5⟩ := h.open
  have eg := hd.enter
  have Hd := Lib.hid hd
  have Hn := Lib.hid HN.out.1
  rw [← Hn.out]
  clear h hd
  go_enter Tryz.func104, Tryz.ntmps104
  go_wp2_with fail
  go_loopw [10] (fun i wr => ∃ k : Nat, k ≤ n ∧ i = .int .i64 k ∧ Hid (scan err k = 0) ∧ Hid (I k wr)) (fun i _ => n - (intOf i).toNat)
  case atStart => exact ⟨0, by omega, rfl, rfl, h0⟩
  case round =>
    obtain ⟨k, hk, rfl, Hs, HI⟩ := hrel
    clear h0
    have hRw := Hd.out.below _ _ HI.out
    by_cases hlt : k < n
    · obtain ⟨b, off, rfl, hb, k0, k1, k2, k3⟩ := h4 (by omega)
      have x0 := k0 k wr hlt hRw
      have x1 := k1 k wr hlt hRw
      have x2 := k2 k wr hlt hRw
      have x3 := k3 k wr hlt hRw
      obtain ⟨Q, hQ, hQ1, y0, y1, y2, y3⟩ := cls_box4 wr (.int .i64 (obj l k).id) (.int .i64 (obj l k).kind) (.slice (la k) (ln k) (lc k)) (.string (obj l k).text) 89
      have Hc := Lib.hid (Hd.out.step k _ _ S (by rw [← Hn.out]; exact hlt) Hs.out (Hd.out.next _ _ _ HI.out (hQ.below _ hQ1)) ((h5 k hlt).below (below_next hRw (hQ.below _ hQ1))))
      have z0 := y0 _ hQ1
      have z1 := y1 _ hQ1
      have z2 := y2 _ hQ1
      have z3 := y3 _ hQ1
      have hi1 : (0 : Int) ≤ (k : Int) := by omega
      have hi2 : (k : Int) < (n : Int) := by omega
      clear k0 k1 k2 k3 h4 h5 y0 y1 y2 y3
      by_cases he : err k = 0
      · have hq : (err k != 0) = false := by simpa using he
        have Hs2 := Lib.hid (show scan err (k + 1) = 0 from scan_next Hs.out he)
        have He := Lib.hid he
        clear he
        go_wp2_with fail
        refine Hc.out.mono ?_
        rintro e w' ⟨rfl, hb2, hI2⟩
        have HI2 := Lib.hid (hI2 He.out)
        clear hI2 hb2
        go_wp2_with fail
        go_roundw
        case rel => exact ⟨k + 1, by omega, by go_num, Hs2, HI2⟩
        case measure => simp [intOf]; omega
      · have hq : (err k != 0) = true := by simpa using he
        have Hs2 := Lib.hid (show scan err n = err k from scan_hit Hs.out he hlt)
        have He := Lib.hid he
        clear he
        go_wp2_with fail
        refine Hc.out.mono ?_
        rintro e w' ⟨rfl, hb2, hI2⟩
        clear hI2
        go_wp2_with fail
        go_ret
        exact ⟨ret_int Hs2.out.symm, hb2, fun h => absurd (Hs2.out.symm.trans h) He.out⟩
    · obtain rfl : k = n := by omega
      go_wp2_with fail
      go_ret
      exact ⟨ret_int Hs.out.symm, hRw, fun _ => HI.out⟩

theorem missTo_next {l m : List Obj} {k : Nat} (hk : k < l.length) : missTo l m (k + 1) = missO (missTo l m k) m (obj l k) := by
  unfold missO
  by_cases h : isAt m (obj l k).id = true
  · rw [if_pos h, missTo_there hk h]
  · rw [if_neg h, missTo_not hk (by simpa using h)]

set_option maxRecDepth 100000 in
theorem miss_does {l m : List Obj} (hr : Rising m) (hl : l.length ≤ 800) {w0 : World} {J T : Nat} (hJ : w0.heap.size ≤ J) {tv : Value} (hT : w0.heap[T]? = some (.cells #[tv] 23 (0, 0))) {S1 : Nat → Prop} (hm : StoreV S1 w0 tv m) :
    DoesC 137 (.pointer (some ⟨T, 0, none⟩)) (.pointer (some ⟨J, 0, none⟩)) l w0 (fun k x => Below w0.heap.size w0 x ∧ OutAt w0.heap.size J x (missTo l m k)) (missErr l m) where
  enter := fun _ _ => rfl
  below := fun k x h => h.1
  next := fun k x y h hb => ⟨below_next h.1 hb, h.2.below hb⟩
  step := fun k x lv S hk hs hI ho => by
    have h1 := raw1_any hI.2 tv ((hI.1.block _ (lt_of_block hT)).trans hT) S1 (hm.below hI.1) hr (obj l k) lv S ho (by have := missTo_length l m k; omega) hJ
    refine h1.mono ?_
    rintro e w' ⟨rfl, hb, hO⟩
    have hb2 : Below w0.heap.size w0 w' := hI.1.trans hb
    exact ⟨rfl, hb2, fun _ => ⟨hb2, by rw [missTo_next hk]; exact hO⟩⟩

set_option maxRecDepth 100000 in
set_option maxHeartbeats 2000000 in
theorem diffRaw_any (l m : List Obj) (lv mv : Value) (S S' : Nat → Prop) (w : World) (h : StoreV S w lv l) (hm : StoreV S' w mv m) (hr : Rising m) (hl : l.length ≤ 800) :
    Calls Tryz.prog 100 #[lv, mv] w fun e w' => RetStoreE w w' e (rawL l m) (rawE l m) := by
  have hmf : ∀ (fn : Fn) (first cap : Array Value) (w : World), (Instr.makeFunc fn first cap).run Tryz.prog w = .ok (.func fn first cap) w := fun _ _ _ _ => rfl
  obtain ⟨la, lc, rfl⟩ := h.vshape
  obtain ⟨ma, mc, rfl⟩ := hm.vshape
  obtain ⟨w1, hw1⟩ : ∃ w1 : World, w1 = w.alloc (.cells #[.slice ma m.length mc] 23) := ⟨_, rfl⟩
  have hb1 : Below w.heap.size w w1 := by rw [hw1]; exact (Below.refl _ _).alloc (Nat.le_refl _) _
  have hT : w1.heap[w.heap.size]? = some (.cells #[.slice ma m.length mc] 23 (0, 0)) := by rw [hw1]; exact heap_alloc_new w _
  have hz : w1.heap.size = w.heap.size + 1 := by rw [hw1]; simp
  have HE := Lib.hid (eachC_any (miss_does hr hl (J := w.heap.size + 1) (Nat.le_of_eq hz) hT (hm.below hb1)) (.slice la l.length lc) S (h.below hb1) (w := w1.alloc (.cells #[.slice none 0 0] 23)) ⟨(Below.refl _ _).alloc (Nat.le_refl _) _, by rw [missTo_zero, ← hz]; exact outAt_new w1 _⟩)
  have HwE := Lib.hid (show rawE l m = scan (missErr l m) l.length from rfl)
  have HwL := Lib.hid (show rawL l m = if rawE l m = 0 then missL l m else [] from rfl)
  have Hend := Lib.hid (missTo_end l m)
  have hml := missL_length l m
  have HJl := Lib.hid (show (missL l m).length * 56 ≤ 140737488351232 by omega)
  have Hb1 := Lib.hid hb1
  clear h hm hr hml hT hb1
  rw [HwL.out]
  generalize rawE l m = se at *
  rw [← HwE.out] at HE
  clear HwE HwL
  by_cases hs : se = 0
  · subst hs
    rw [if_pos rfl]
    have Hw1 := Lib.hid hw1
    go_enter Tryz.func100, Tryz.ntmps100
    go_wp2_with fail
    rw [← Hw1.out]
    refine HE.out.mono ?_
    rintro e w3 ⟨rfl, hb3, hI3⟩
    obtain ⟨_, v3, S3, hG3, _, _, hc3⟩ := hI3 (by simp)
    rw [Hend.out] at hG3
    obtain ⟨a3, c3, rfl⟩ := hG3.gath.shape
    have hst := Lib.hid (hG3.gath.store HJl.out)
    have hb4 : Below w.heap.size w w3 := Hb1.out.trans (hb3.mono (by omega))
    have j0 := block_cell (j := 0) hc3 rfl
    have Hb4 := Lib.hid hb4
    clear hb4 hb3 hI3 hG3 hc3
    go_wp2_with fail
    go_ret2
    exact ⟨_, rfl, hst.out, Hb4.out⟩
  · have hq : (se != 0) = true := by simpa using hs
    rw [if_neg hs]
    have Hw1 := Lib.hid hw1
    clear hs
    go_enter Tryz.func100, Tryz.ntmps100
    go_wp2_with fail
    rw [← Hw1.out]
    refine HE.out.mono ?_
    rintro e w3 ⟨rfl, hb3, hI3⟩
    have hb4 : Below w.heap.size w w3 := Hb1.out.trans (hb3.mono (by omega))
    have Hb4 := Lib.hid hb4
    clear hb4 hb3 hI3
    go_wp2_with fail
    go_ret2
    exact ⟨_, rfl, StoreV.nil _ _ _ _ (by omega), Hb4.out⟩

set_option maxRecDepth 100000 in
set_option maxHeartbeats 2000000 in
theorem objects_any (l m : List Obj) (lv mv : Value) (S S' : Nat → Prop) (w : World) (h : StoreV S w lv l) (hm : StoreV S' w mv m) :
    Calls Tryz.prog 55 #[lv, mv] w fun e w' => RetStoreE w w' e (diffL l m) (diffE l m) := by
  have HE := Lib.hid (show diffE l m = if checkStore l ≠ 0 then checkStore l else if checkStore m ≠ 0 then checkStore m else rawE l m from rfl)
  have HL := Lib.hid (show diffL l m = if diffE l m = 0 then missL l m else [] from rfl)
  have H1 := Lib.hid (storeCheck_any l lv S w h)
  have H2 := Lib.hid (fun x (hb : Below w.heap.size w x) => storeCheck_any m mv S' x (hm.below hb))
  have H3 := Lib.hid (fun (e1 : checkStore l = 0) (e2 : checkStore m = 0) x (hb : Below w.heap.size w x) => diffRaw_any l m lv mv S S' x (h.below hb) (hm.below hb) (checkStore_rising e2) (by have := (checkStore_zero e1).1; omega))
  obtain ⟨la, lc, rfl⟩ := h.vshape
  obtain ⟨ma, mc, rfl⟩ := hm.vshape
  clear h hm
  by_cases h1 : checkStore l = 0
  · by_cases h2 : checkStore m = 0
    · have Hr := Lib.hid (H3.out h1 h2)
      rw [if_neg (by simpa using h1), if_neg (by simpa using h2)] at HE
      rw [h1] at H1; rw [h2] at H2
      have HL2 := Lib.hid (show diffL l m = rawL l m by rw [HL.out, HE.out]; rfl)
      rw [HL2.out, HE.out]
      clear h1 h2 H3 HE HL
      go_enter Tryz.func55, Tryz.ntmps55
      go_wp2_with fail
      refine H1.out.mono ?_
      rintro e w1 ⟨rfl, hb1⟩
      go_wp2_with fail
      refine (H2.out _ hb1).mono ?_
      rintro e w2 ⟨rfl, hb2⟩
      have hb3 := below_next hb1 hb2
      go_wp2_with fail
      refine (Hr.out _ hb3).mono ?_
      rintro e w3 ⟨v3, rfl, hv3, hb4⟩
      obtain ⟨a3, c3, rfl⟩ := hv3.vshape
      have hb5 := below_next hb3 hb4
      have Hv := Lib.hid hv3
      clear hv3
      go_wp2_with fail
      go_ret2
      exact ⟨_, rfl, Hv.out, hb5⟩
    · rw [if_neg (by simpa using h1), if_pos (by simpa using h2)] at HE
      have hq : (checkStore m != 0) = true := by simpa using h2
      have HL2 := Lib.hid (show diffL l m = [] by rw [HL.out, HE.out, if_neg h2])
      rw [h1] at H1
      rw [HL2.out, HE.out]
      clear h1 h2 H3 HE HL
      generalize checkStore m = c at *
      go_enter Tryz.func55, Tryz.ntmps55
      go_wp2_with fail
      refine H1.out.mono ?_
      rintro e w1 ⟨rfl, hb1⟩
      go_wp2_with fail
      refine (H2.out _ hb1).mono ?_
      rintro e w2 ⟨rfl, hb2⟩
      have hb3 := below_next hb1 hb2
      go_wp2_with fail
      go_ret2
      exact ⟨_, rfl, StoreV.nil _ _ _ _ (by omega), hb3⟩
  · rw [if_pos (by simpa using h1)] at HE
    have hq : (checkStore l != 0) = true := by simpa using h1
    have hq2 : (checkStore l == 0) = false := by simpa using h1
    have HL2 := Lib.hid (show diffL l m = [] by rw [HL.out, HE.out, if_neg h1])
    rw [HL2.out, HE.out]
    clear h1 H3 HE HL H2
    generalize checkStore l = c at *
    go_enter Tryz.func55, Tryz.ntmps55
    go_wp2_with fail
    refine H1.out.mono ?_
    rintro e w1 ⟨rfl, hb1⟩
    go_wp2_with fail
    go_ret2
    exact ⟨_, rfl, StoreV.nil _ _ _ _ (by omega), hb1⟩
end Go.Proofs.YtkaoldnhooojiaaGreatDoor
