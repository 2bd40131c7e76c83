
/- ClusG: walks of cluster.Raw and cluster.Push. -/
import Derived.Test.YtgkbalhkjolnmaaGreatDoorL20
namespace Go.Proofs.YtgkbalhkjolnmaaGreatDoor
open Go.RowKit
set_option linter.unusedVariables false
set_option linter.unusedSimpArgs false
theorem RepsV.low {S : Nat → Prop} {w : World} {v : Value} {l : List Rep} (h : RepsV S w v l) : RepsV (fun b => S b ∧ b < w.heap.size) w v l := by
 obtain ⟨vs, ⟨a, cap, hv, h1, h2, h3, h4⟩, h5⟩ := h
 refine ⟨vs, ⟨a, cap, hv, h1, h2, h3, fun hn => ?_⟩, fun i hi => RepIs.lt (h5 i hi)⟩
 obtain ⟨b, off, ha, hS, hc⟩ := h4 hn
 exact ⟨b, off, ha, ⟨hS, World.block_lt_of_cell? w _ (hc 0 hn 0 _ rfl)⟩, hc⟩
theorem vote_short {r : Rep} {p : Psh} (hr : 0 ≤ r.gen ∧ r.gen ≤ 999) (hp : checkPsh p = 0) : (voteR r p).size ≤ 140737488351232 := by
 by_cases h : tryE r p = 0
 ·have n1 := dec_short hr.1 hr.2
  have n2 := text_few (mvs_ok.1 (checkPsh_zero hp).2.2)
  unfold voteR; rw [if_neg (by simpa using h)]
  rw [ByteArray.size_append, ByteArray.size_append, ByteArray.size_append]
  have n3 : yesSp.size ≤ 10 := by decide +kernel
  have n4 : spB.size ≤ 10 := by decide +kernel
  omega
 ·rw [vote_no h]; decide
theorem says_short {l : List Rep} {p : Psh} {up : Int} (hc : RightC l) (hp : checkPsh p = 0) : ∀ i, i < 3 → (saysAt l p up i).size ≤ 140737488351232 := fun i hi => by
 rw [says_at hc hp hi]
 unfold voteAt
 split
 ·exact vote_short (hc.each i hi).gen hp
 ·decide
theorem done_at {l : List Rep} {p : Psh} {up : Int} {y : Nat → Bool} {i : Nat} (hl : l.length = 3) (hi : i < 3) : rep (prepTo l p up 3) i = prepAt l p up i ∧ sa (saysTo l p up 3) i = saysAt l p up i := by
 have h3 : i = 0 ∨ i = 1 ∨ i = 2 := by omega
 have e : prepTo l p up 3 = ((l.set 0 (prepAt l p up 0)).set 1 (prepAt l p up 1)).set 2 (prepAt l p up 2) := rfl
 refine ⟨?_, ?_⟩
 ·rw [e, rep_set (by rw [List.length_set, List.length_set]; omega), rep_set (by rw [List.length_set]; omega), rep_set (by omega)]
  rcases h3 with rfl | rfl | rfl <;> rfl
 ·rcases h3 with rfl | rfl | rfl <;> rfl
theorem empty_toList {s : ByteArray} : s.toList = [] ↔ s = ByteArray.empty := by
 have h1 := text_eq s ByteArray.empty
 constructor
 ·intro h
  have : (s.toList == ByteArray.empty.toList) = true := by rw [h]; decide +kernel
  rw [h1] at this; simpa using this
 ·rintro rfl; decide +kernel
theorem doneE_at {l : List Rep} {p : Psh} {up : Int} {y : Nat → Bool} (hl : l.length = 3) {i : Nat} (hi : i < 3) : doneE (prepTo l p up 3) (saysTo l p up 3) y i = finAtE l p up y i := by
 obtain ⟨h1, h2⟩ := done_at (p := p) (up := up) (y := y) hl hi
 unfold doneE finAtE
 rw [h1, h2]
 by_cases h : saysAt l p up i = ByteArray.empty
 ·rw [if_pos h, if_pos (empty_toList.2 h)]
 ·rw [if_neg h, if_neg (fun e => h (empty_toList.1 e))]
theorem doneTo_at {l : List Rep} {p : Psh} {up : Int} {y : Nat → Bool} (hl : l.length = 3) : doneTo (prepTo l p up 3) (saysTo l p up 3) y 3 = [finAt l p up y 0, finAt l p up y 1, finAt l p up y 2] := by
 have key : ∀ i, i < 3 → ∀ L : List Rep, L.length = 3 → rep L i = prepAt l p up i → (if (sa (saysTo l p up 3) i).toList = [] then L else L.set i (finR (rep (prepTo l p up 3) i) (y i))) = L.set i (finAt l p up y i) := by
  intro i hi L hL hr
  obtain ⟨h1, h2⟩ := done_at (p := p) (up := up) (y := y) hl hi
  unfold finAt
  rw [h1, h2]
  by_cases h : saysAt l p up i = ByteArray.empty
  ·rw [if_pos h, if_pos (empty_toList.2 h), ← hr]
   apply List.ext_getElem (by simp)
   intro j h3 h4
   rw [List.getElem_set]
   split
   ·rename_i e; subst e; rw [rep_lt (by omega)]
   ·rfl
  ·rw [if_neg h, if_neg (fun e => h (empty_toList.1 e))]
 have hp3 : (prepTo l p up 3).length = 3 := by rw [prepTo_length]; exact hl
 have e0 := key 0 (by omega) (prepTo l p up 3) hp3 (done_at (y := y) hl (by omega)).1
 have e1 := key 1 (by omega) ((prepTo l p up 3).set 0 (finAt l p up y 0)) (by simpa using hp3) (by rw [rep_set (by omega), if_neg (by omega)]; exact (done_at (y := y) hl (by omega)).1)
 have e2 := key 2 (by omega) (((prepTo l p up 3).set 0 (finAt l p up y 0)).set 1 (finAt l p up y 1)) (by simpa using hp3) (by rw [rep_set (by simp; omega), if_neg (by omega), rep_set (by omega), if_neg (by omega)]; exact (done_at (y := y) hl (by omega)).1)
 have e : doneTo (prepTo l p up 3) (saysTo l p up 3) y 3 = (((prepTo l p up 3).set 0 (finAt l p up y 0)).set 1 (finAt l p up y 1)).set 2 (finAt l p up y 2) := by
  unfold doneTo doneTo doneTo doneTo
  rw [e0, e1, e2]
 rw [e]
 generalize prepTo l p up 3 = P at hp3
 match P, hp3 with
 | [a, b, c], _ => rfl
theorem tally_told {l : List Rep} {p : Psh} {up : Int} (hc : RightC l) (hp : checkPsh p = 0) : tallyS (saysTo l p up 3) = tallyR (votesL l p up) := by rw [says_votes hc hp]; exact tally_same _
theorem yes_comm {l : List Rep} {p : Psh} {up late : Int} (hc : RightC l) (hp : checkPsh p = 0) (hd : pushDo l p up late = true) {i : Nat} (hi : i < 3) :
  (((sa (saysTo l p up 3) i).toList == (tallyS (saysTo l p up 3)).1.toList) && !bitB late i) = (pushDo l p up late && commB l p up late i) := by
 obtain ⟨a, b, _, _, _, _, ca, _⟩ := comm_top hc hd
 have hok : (tallyR (votesL l p up)).2 = true := by
  unfold commB at ca
  rw [Bool.and_eq_true, Bool.and_eq_true] at ca
  exact ca.1.1
 rw [hd, Bool.true_and, tally_told hc hp]
 unfold commB
 rw [hok, Bool.true_and, says_votes hc hp]
 have h3 : i = 0 ∨ i = 1 ∨ i = 2 := by omega
 rcases h3 with rfl | rfl | rfl <;> rfl
set_option maxRecDepth 100000 in
set_option maxHeartbeats 16000000 in
theorem cluRaw_any (l : List Rep) (p : Psh) (up late : Int) (v ov uv : Value) (S S1 : Nat → Prop) (w : World) (h : RepsV S w v l) (hc : RightC l) (hp : StoreV S1 w ov p.objects ∧ MvsV S1 w uv p.updates) (ht : Tab w) :
  Calls Tryz.prog 35 #[.agg #[v], pshV p ov uv, .int .i64 up, .int .i64 late] w fun e w' => ∃ v', e = .returned (.tuple #[.agg #[v'], .bool (pushRD l p up late), .int .i64 (pushRE l p up late)]) ∧ OwnF w.heap.size w' v' (pushRL l p up late) ∧ Below w.heap.size w w' := by
 have H := Lib.hid h
 have HP := Lib.hid hp
 have HTw := Lib.hid ht
 have HC := Lib.hid hc
 obtain ⟨ho, hu⟩ := hp
 obtain ⟨oap, ocp, rfl⟩ := ho.vshape
 obtain ⟨⟨uap, ucp⟩, rfl⟩ := hu.shape
 obtain ⟨a, cap, rfl⟩ := h.vshape
 obtain ⟨R, hR, hR1, HB0⟩ := cls_allocs w [.cells #[.slice a l.length cap] 24, .cells #[.slice oap p.objects.length ocp, .slice uap p.updates.length ucp, .bool p.force] 28, .cells #[.slice none 0 0] 24]
 simp only [List.foldl] at hR1
 have hRb := hR.below
 have hRn := hR.next
 have c0 := fun x (hx : In R x) => block_cell (j := 0) (HB0 x hx 0 _ rfl) rfl
 have p0 := fun x (hx : In R x) => block_cell (j := 0) (HB0 x hx 1 _ rfl) rfl
 have p1 := fun x (hx : In R x) => block_cell (j := 1) (HB0 x hx 1 _ rfl) rfl
 have p2 := fun x (hx : In R x) => block_cell (j := 2) (HB0 x hx 1 _ rfl) rfl
 simp only [Nat.add_zero] at c0
 have HZ := Lib.hid (fun x (hx : In R x) => show x.heap[w.heap.size + 2]? = some (.cells #[.slice none 0 0] 24 (0, 0)) from HB0 x hx 2 _ rfl)
 have HSz := Lib.hid (fun x (hx : In R x) => show w.heap.size + 3 ≤ x.heap.size from lt_of_block (HB0 x hx 2 _ rfl))
 clear HB0
 have HCk := Lib.hid (fun x (hx : In R x) => pushCheck_any p _ _ _ _ x (HP.out.1.below (hRb _ hx)) (HP.out.2.below (hRb _ hx)))
 have HOw := Lib.hid (fun x (hx : In R x) => cluOwn_any l _ _ x (H.out.below (hRb _ hx)))
 have HE0 := Lib.hid (show pushRE l p up late = if pushE0 p up late ≠ 0 then pushE0 p up late else scan (fullE l p up late) 3 from rfl)
 have HL0 := Lib.hid (show pushRL l p up late = if pushRE l p up late = 0 then [pushAt l p up late 0, pushAt l p up late 1, pushAt l p up late 2] else [] from rfl)
 have HD0 := Lib.hid (show pushRD l p up late = if pushRE l p up late = 0 then pushDo l p up late else false from rfl)
 have HE1 := Lib.hid (show pushE0 p up late = if checkPsh p ≠ 0 then checkPsh p else if 0 ≤ up ∧ up ≤ 7 ∧ 0 ≤ late ∧ late ≤ 7 then 0 else 3 from rfl)
 have cc := c0 _ hR1
 have r0 := p0 _ hR1
 have r1 := p1 _ hR1
 have r2 := p2 _ hR1
 clear h hc ho hu ht
 simp only [pshV]
 by_cases hck : checkPsh p = 0
 case neg =>
  have HE2 := Lib.hid (show pushRE l p up late = checkPsh p by have h0 : pushE0 p up late = checkPsh p := (by rw [HE1.out, if_pos hck]); rw [HE0.out, if_pos (by rw [h0]; exact hck), h0])
  have HL2 := Lib.hid (show pushRL l p up late = [] by rw [HL0.out, HE2.out, if_neg hck])
  have HD2 := Lib.hid (show pushRD l p up late = false by rw [HD0.out, HE2.out, if_neg hck])
  have q1 : (checkPsh p == 0) = false := by simpa using hck
  have q2 : (checkPsh p != 0) = true := by simpa using hck
  clear hck HE0 HL0 HD0 HE1
  generalize checkPsh p = ce at *
  go_enter Tryz.func35, Tryz.ntmps35
  go_wp2_with fail
  refine (HCk.out _ hR1).mono ?_
  rintro e w1 ⟨rfl, hb1⟩
  have hR2 := hRn _ _ hR1 hb1
  clear cc r0 r1 r2 hb1
  have hRz := hR2
  have hZ := HZ.out _ hRz
  have gz := block_cell (j := 0) hZ rfl
  have fz := block_free (j := 0) hZ
  go_wp2_with fail
  have hu5 : Upd (fun b => b = w.heap.size + 2) w1 (w1.setCell ⟨w.heap.size + 2, 0, none⟩ (.slice none 0 0)) := (Upd.refl (fun b => b = w.heap.size + 2) w1).setCell (p := ⟨w.heap.size + 2, 0, none⟩) (fun _ => rfl) _
  have hk5 : (w1.setCell ⟨w.heap.size + 2, 0, none⟩ (.slice none 0 0)).heap[w.heap.size + 2]? = some (.cells #[.slice none 0 0] 24 (0, 0)) := block_setCell (j := 0) hZ (.slice none 0 0)
  have hB5 := (hRb _ hRz).trans (hu5.below (B := w.heap.size) (hRb _ hRz).size (fun b hb => by have e2 : b = w.heap.size + 2 := hb; omega))
  generalize w1.setCell ⟨w.heap.size + 2, 0, none⟩ (.slice none 0 0) = x5 at *
  have k0 := block_cell (j := 0) hk5 rfl
  refine bodyPost_ret (v := .tuple #[.agg #[.slice none 0 0], .bool false, .int .i64 ce]) (by simp [results, Tryz.results35, go_sem]; simp [k0] <;> rfl) rfl ?_
  refine ⟨_, by rw [HD2.out, HE2.out] <;> rfl, by rw [HL2.out]; exact ⟨fun _ => False, OwnC.nil _ _ _ (fun _ h => h.elim), fun _ h => h.elim⟩, hB5⟩
 rw [hck] at HCk
 by_cases hrg : 0 ≤ up ∧ up ≤ 7 ∧ 0 ≤ late ∧ late ≤ 7
 case neg =>
  have hE0 : pushE0 p up late = 3 := by rw [HE1.out, if_neg (by simpa using hck), if_neg hrg]
  have hE3 : pushRE l p up late = 3 := by rw [HE0.out, if_pos (by rw [hE0]; decide), hE0]
  clear hE0
  have HE2 := Lib.hid hE3
  have HL2 := Lib.hid (show pushRL l p up late = [] by rw [HL0.out, hE3]; rfl)
  have HD2 := Lib.hid (show pushRD l p up late = false by rw [HD0.out, hE3]; rfl)
  clear hE3 HE0 HL0 HD0 HE1 hck
  have hcase : (up < 0) ∨ (¬ up < 0 ∧ 7 < up) ∨ (¬ up < 0 ∧ ¬ 7 < up ∧ late < 0) ∨ (¬ up < 0 ∧ ¬ 7 < up ∧ ¬ late < 0 ∧ 7 < late) := by omega
  clear hrg
  rcases hcase with h1 | ⟨h1, h2⟩ | ⟨h1, h2, h3⟩ | ⟨h1, h2, h3, h4⟩
  ·skip
   go_enter Tryz.func35, Tryz.ntmps35
   go_wp2_with fail
   refine (HCk.out _ hR1).mono ?_
   rintro e w1 ⟨rfl, hb1⟩
   have hR2 := hRn _ _ hR1 hb1
   clear cc r0 r1 r2 hb1
   have hRz := hR2
   have hZ := HZ.out _ hRz
   have gz := block_cell (j := 0) hZ rfl
   have fz := block_free (j := 0) hZ
   go_wp2_with fail
   have hu5 : Upd (fun b => b = w.heap.size + 2) w1 (w1.setCell ⟨w.heap.size + 2, 0, none⟩ (.slice none 0 0)) := (Upd.refl (fun b => b = w.heap.size + 2) w1).setCell (p := ⟨w.heap.size + 2, 0, none⟩) (fun _ => rfl) _
   have hk5 : (w1.setCell ⟨w.heap.size + 2, 0, none⟩ (.slice none 0 0)).heap[w.heap.size + 2]? = some (.cells #[.slice none 0 0] 24 (0, 0)) := block_setCell (j := 0) hZ (.slice none 0 0)
   have hB5 := (hRb _ hRz).trans (hu5.below (B := w.heap.size) (hRb _ hRz).size (fun b hb => by have e2 : b = w.heap.size + 2 := hb; omega))
   generalize w1.setCell ⟨w.heap.size + 2, 0, none⟩ (.slice none 0 0) = x5 at *
   have k0 := block_cell (j := 0) hk5 rfl
   refine bodyPost_ret (v := .tuple #[.agg #[.slice none 0 0], .bool false, .int .i64 3]) (by simp [results, Tryz.results35, go_sem]; simp [k0] <;> rfl) rfl ?_
   refine ⟨_, by rw [HD2.out, HE2.out] <;> rfl, by rw [HL2.out]; exact ⟨fun _ => False, OwnC.nil _ _ _ (fun _ h => h.elim), fun _ h => h.elim⟩, hB5⟩
  ·skip
   go_enter Tryz.func35, Tryz.ntmps35
   go_wp2_with fail
   refine (HCk.out _ hR1).mono ?_
   rintro e w1 ⟨rfl, hb1⟩
   have hR2 := hRn _ _ hR1 hb1
   clear cc r0 r1 r2 hb1
   have hRz := hR2
   have hZ := HZ.out _ hRz
   have gz := block_cell (j := 0) hZ rfl
   have fz := block_free (j := 0) hZ
   go_wp2_with fail
   have hu5 : Upd (fun b => b = w.heap.size + 2) w1 (w1.setCell ⟨w.heap.size + 2, 0, none⟩ (.slice none 0 0)) := (Upd.refl (fun b => b = w.heap.size + 2) w1).setCell (p := ⟨w.heap.size + 2, 0, none⟩) (fun _ => rfl) _
   have hk5 : (w1.setCell ⟨w.heap.size + 2, 0, none⟩ (.slice none 0 0)).heap[w.heap.size + 2]? = some (.cells #[.slice none 0 0] 24 (0, 0)) := block_setCell (j := 0) hZ (.slice none 0 0)
   have hB5 := (hRb _ hRz).trans (hu5.below (B := w.heap.size) (hRb _ hRz).size (fun b hb => by have e2 : b = w.heap.size + 2 := hb; omega))
   generalize w1.setCell ⟨w.heap.size + 2, 0, none⟩ (.slice none 0 0) = x5 at *
   have k0 := block_cell (j := 0) hk5 rfl
   refine bodyPost_ret (v := .tuple #[.agg #[.slice none 0 0], .bool false, .int .i64 3]) (by simp [results, Tryz.results35, go_sem]; simp [k0] <;> rfl) rfl ?_
   refine ⟨_, by rw [HD2.out, HE2.out] <;> rfl, by rw [HL2.out]; exact ⟨fun _ => False, OwnC.nil _ _ _ (fun _ h => h.elim), fun _ h => h.elim⟩, hB5⟩
  ·skip
   go_enter Tryz.func35, Tryz.ntmps35
   go_wp2_with fail
   refine (HCk.out _ hR1).mono ?_
   rintro e w1 ⟨rfl, hb1⟩
   have hR2 := hRn _ _ hR1 hb1
   clear cc r0 r1 r2 hb1
   have hRz := hR2
   have hZ := HZ.out _ hRz
   have gz := block_cell (j := 0) hZ rfl
   have fz := block_free (j := 0) hZ
   go_wp2_with fail
   have hu5 : Upd (fun b => b = w.heap.size + 2) w1 (w1.setCell ⟨w.heap.size + 2, 0, none⟩ (.slice none 0 0)) := (Upd.refl (fun b => b = w.heap.size + 2) w1).setCell (p := ⟨w.heap.size + 2, 0, none⟩) (fun _ => rfl) _
   have hk5 : (w1.setCell ⟨w.heap.size + 2, 0, none⟩ (.slice none 0 0)).heap[w.heap.size + 2]? = some (.cells #[.slice none 0 0] 24 (0, 0)) := block_setCell (j := 0) hZ (.slice none 0 0)
   have hB5 := (hRb _ hRz).trans (hu5.below (B := w.heap.size) (hRb _ hRz).size (fun b hb => by have e2 : b = w.heap.size + 2 := hb; omega))
   generalize w1.setCell ⟨w.heap.size + 2, 0, none⟩ (.slice none 0 0) = x5 at *
   have k0 := block_cell (j := 0) hk5 rfl
   refine bodyPost_ret (v := .tuple #[.agg #[.slice none 0 0], .bool false, .int .i64 3]) (by simp [results, Tryz.results35, go_sem]; simp [k0] <;> rfl) rfl ?_
   refine ⟨_, by rw [HD2.out, HE2.out] <;> rfl, by rw [HL2.out]; exact ⟨fun _ => False, OwnC.nil _ _ _ (fun _ h => h.elim), fun _ h => h.elim⟩, hB5⟩
  ·skip
   go_enter Tryz.func35, Tryz.ntmps35
   go_wp2_with fail
   refine (HCk.out _ hR1).mono ?_
   rintro e w1 ⟨rfl, hb1⟩
   have hR2 := hRn _ _ hR1 hb1
   clear cc r0 r1 r2 hb1
   have hRz := hR2
   have hZ := HZ.out _ hRz
   have gz := block_cell (j := 0) hZ rfl
   have fz := block_free (j := 0) hZ
   go_wp2_with fail
   have hu5 : Upd (fun b => b = w.heap.size + 2) w1 (w1.setCell ⟨w.heap.size + 2, 0, none⟩ (.slice none 0 0)) := (Upd.refl (fun b => b = w.heap.size + 2) w1).setCell (p := ⟨w.heap.size + 2, 0, none⟩) (fun _ => rfl) _
   have hk5 : (w1.setCell ⟨w.heap.size + 2, 0, none⟩ (.slice none 0 0)).heap[w.heap.size + 2]? = some (.cells #[.slice none 0 0] 24 (0, 0)) := block_setCell (j := 0) hZ (.slice none 0 0)
   have hB5 := (hRb _ hRz).trans (hu5.below (B := w.heap.size) (hRb _ hRz).size (fun b hb => by have e2 : b = w.heap.size + 2 := hb; omega))
   generalize w1.setCell ⟨w.heap.size + 2, 0, none⟩ (.slice none 0 0) = x5 at *
   have k0 := block_cell (j := 0) hk5 rfl
   refine bodyPost_ret (v := .tuple #[.agg #[.slice none 0 0], .bool false, .int .i64 3]) (by simp [results, Tryz.results35, go_sem]; simp [k0] <;> rfl) rfl ?_
   refine ⟨_, by rw [HD2.out, HE2.out] <;> rfl, by rw [HL2.out]; exact ⟨fun _ => False, OwnC.nil _ _ _ (fun _ h => h.elim), fun _ h => h.elim⟩, hB5⟩
 have hE0 : pushE0 p up late = 0 := by rw [HE1.out, if_neg (by simpa using hck), if_pos hrg]
 have hE4 : pushRE l p up late = scan (fullE l p up late) 3 := by rw [HE0.out, if_neg (by simpa using hE0)]
 clear hE0
 have HE4 := Lib.hid hE4
 have Hck := Lib.hid hck
 have Hrg := Lib.hid hrg
 have h1 : ¬ up < 0 := by omega
 have h2 : ¬ 7 < up := by omega
 have h3 : ¬ late < 0 := by omega
 have h4 : ¬ 7 < late := by omega
 clear hE4 HE0 HE1 hck hrg
 go_enter Tryz.func35, Tryz.ntmps35
 go_wp2_with fail
 refine (HCk.out _ hR1).mono ?_
 rintro e w1 ⟨rfl, hb1⟩
 have hR2 := hRn _ _ hR1 hb1
 clear cc r0 r1 r2 hb1
 have HL3 := Lib.hid HC.out.len
 have hq2 := p0 _ hR2
 have cc2 := c0 _ hR2
 go_wp2_with fail
 refine (HOw.out _ hR2).mono ?_
 rintro e w2 ⟨v2, rfl, ⟨F, hO, hF⟩, hb2⟩
 obtain ⟨a2, c2, rfl⟩ := hO.shape
 have hR3 := hRn _ _ hR2 hb2
 have hsz1 := HSz.out _ hR2
 have hle2 := hb2.size
 clear hq2 cc2
 obtain ⟨g, rfl⟩ : ∃ g, a2 = some ⟨g, 0, none⟩ := by
  obtain ⟨_, _, ⟨_, h2⟩, _⟩ := hO
  rcases h2 with ⟨e, h0⟩ | ⟨g, cp, cur, e, _⟩
  ·have := HL3.out; exfalso; omega
  ·cases e; exact ⟨g, rfl⟩
 have hR4 := hR.alloc _ (.cells #[.slice (some ⟨g, 0, none⟩) l.length c2, .slice none 0 0, .string ⟨#[]⟩] 124) hR3
 have hb3 : Below w2.heap.size w2 (w2.alloc (.cells #[.slice (some ⟨g, 0, none⟩) l.length c2, .slice none 0 0, .string ⟨#[]⟩] 124)) := (Below.refl _ _).alloc (Nat.le_refl _) _
 have hM3 : LeadAt w1.heap.size g c2 w2.heap.size (w2.alloc (.cells #[.slice (some ⟨g, 0, none⟩) l.length c2, .slice none 0 0, .string ⟨#[]⟩] 124)) l [] ⟨#[]⟩ := by
  have hg : w1.heap.size ≤ g ∧ g < w2.heap.size := hO.block rfl
  exact ⟨F, .slice none 0 0, hO.below hb3, ⟨World.ownsRow_nil _ _ _ _, fun _ hs => by cases hs⟩, fun b hb => ⟨hF b hb, fun e => by have := hO.lt hb; omega, by simp [Value.ownBlock]⟩, by simp [Value.ownBlock], by simp [Value.ownBlock], by omega, heap_alloc_new w2 _⟩
 have hsz4 : (w2.alloc (.cells #[.slice (some ⟨g, 0, none⟩) l.length c2, .slice none 0 0, .string ⟨#[]⟩] 124)).heap.size = w2.heap.size + 1 := by simp
 have HM3 := Lib.hid hM3
 clear hM3 hO hF hb2 hb3
 have hb03 := hRb _ hR4
 have HPr := Lib.hid (prepare_leads g c2 w2.heap.size w1.heap.size (w2.alloc (.cells #[.slice (some ⟨g, 0, none⟩) l.length c2, .slice none 0 0, .string ⟨#[]⟩] 124)) l p ⟨#[]⟩ _ _ up S1 HM3.out HL3.out ⟨Hrg.out.1, Hrg.out.2.1⟩ (fun x hx => ⟨HP.out.1.below (hb03.trans (hx.mono (by omega))), HP.out.2.below (hb03.trans (hx.mono (by omega)))⟩) (fun x hx => HTw.out.below (hb03.trans (hx.mono (by omega)))) hle2 (says_short HC.out Hck.out))
 simp only [pshV] at HPr
 have s0 := p0 _ hR4
 have s1 := p1 _ hR4
 have s2 := p2 _ hR4
 clear hb03
 go_wp2_with fail
 refine HPr.out.mono ?_
 rintro e w4 ⟨rfl, hb4, hM4⟩
 clear s0 s1 s2 HPr HM3
 have hb4w : Below (w.heap.size + 3) w2 w4 := ((Below.refl _ _).alloc (by omega) _).trans (hb4.mono (by omega))
 have HM4 := Lib.hid hM4
 clear hM4 hb4
 have HDc := Lib.hid (decide_any g c2 w2.heap.size w1.heap.size w4 _ _ _ late HM4.out (saysTo_length _ _ _ 3) ⟨Hrg.out.2.2.1, Hrg.out.2.2.2⟩ hle2)
 have hcnt : cntV (saysTo l p up 3) (tallyS (saysTo l p up 3)).1 (tallyS (saysTo l p up 3)).2 late 3 = commN l p up late 3 := by rw [says_votes HC.out Hck.out]; exact cnt_comm l p up late
 rw [hcnt] at HDc
 clear hcnt
 go_wp2_with fail
 refine HDc.out.mono ?_
 rintro e w5 ⟨f, rfl, hb5, hM5, hn5, hd5⟩
 have hb5w := hb4w.trans (hb5.mono (show w.heap.size + 3 ≤ w1.heap.size by omega))
 have HM5 := Lib.hid hM5
 clear hM5 hb5 hb4w HDc HM4
 have Hdo := Lib.hid (show pushDo l p up late = decide (2 ≤ commN l p up late 3) from rfl)
 by_cases hcn : 2 ≤ commN l p up late 3
 case pos =>
  have Hdv := Lib.hid (show pushDo l p up late = true by rw [Hdo.out]; simpa using hcn)
  obtain ⟨p5, q5, rfl, hp5, hq5⟩ := hd5 hcn
  clear hn5 hcn hd5
  have HFi := Lib.hid (finish_leads g c2 w2.heap.size w1.heap.size w5 (prepTo l p up 3) (saysTo l p up 3) _ late _ HM5.out ((prepTo_length _ _ _ 3).trans HL3.out) (saysTo_length _ _ _ 3) ⟨Hrg.out.2.2.1, Hrg.out.2.2.2⟩ hle2 ⟨p5, q5, rfl, hp5, hq5⟩)
  have HDn := Lib.hid (done_push (y := fun i => ((sa (saysTo l p up 3) i).toList == (tallyS (saysTo l p up 3)).1.toList) && !bitB late i) HC.out Hck.out (fun i hi => yes_comm HC.out Hck.out Hdv.out hi) (fun i hi => doneE_at HL3.out hi) (doneTo_at HL3.out))
  rw [HDn.out.1] at HFi
  clear hp5 hq5 HM5
  have hne : ∀ w : World, (binOp BinOp.neq 126 (.func (.func 109) #[] #[.pointer (some ⟨p5, 0, none⟩), .pointer (some ⟨q5, 0, none⟩)]) .nilFunc).run Tryz.prog w = .ok (.bool true) w := fun _ => by kernel_rfl
  go_wp2_with fail
  refine HFi.out.mono ?_
  rintro e w6 ⟨rfl, hb6, hM6⟩
  have hb6w := hb5w.trans (hb6.mono (show w.heap.size + 3 ≤ w1.heap.size by omega))
  clear hb6 hb5w HFi
  by_cases hse : scan (fullE l p up late) 3 = 0
  case neg =>
   have HE2 := HE4
   have HL2 := Lib.hid (show pushRL l p up late = [] by rw [HL0.out, HE2.out, if_neg hse])
   have HD2 := Lib.hid (show pushRD l p up late = false by rw [HD0.out, HE2.out, if_neg hse])
   have q1 : (scan (fullE l p up late) 3 != 0) = true := by simpa using hse
   clear hse HE4 HL0 HD0 hM6 HDn
   generalize scan (fullE l p up late) 3 = se at *
   have hZ : w6.heap[w.heap.size + 2]? = some (.cells #[.slice none 0 0] 24 (0, 0)) := (hb6w.block _ (by omega)).trans (HZ.out _ hR3)
   have hB6 : Below w.heap.size w w6 := (hRb _ hR3).trans (hb6w.mono (by omega))
   have gz := block_cell (j := 0) hZ rfl
   have fz := block_free (j := 0) hZ
   clear hb6w
   go_wp2_with fail
   have hu5 : Upd (fun b => b = w.heap.size + 2) w6 (w6.setCell ⟨w.heap.size + 2, 0, none⟩ (.slice none 0 0)) := (Upd.refl (fun b => b = w.heap.size + 2) w6).setCell (p := ⟨w.heap.size + 2, 0, none⟩) (fun _ => rfl) _
   have hk5 : (w6.setCell ⟨w.heap.size + 2, 0, none⟩ (.slice none 0 0)).heap[w.heap.size + 2]? = some (.cells #[.slice none 0 0] 24 (0, 0)) := block_setCell (j := 0) hZ (.slice none 0 0)
   have hB5 := hB6.trans (hu5.below (B := w.heap.size) hB6.size (fun b hb => by have e2 : b = w.heap.size + 2 := hb; omega))
   generalize w6.setCell ⟨w.heap.size + 2, 0, none⟩ (.slice none 0 0) = x5 at *
   have k0 := block_cell (j := 0) hk5 rfl
   refine bodyPost_ret (v := .tuple #[.agg #[.slice none 0 0], .bool false, .int .i64 se]) (by simp [results, Tryz.results35, go_sem]; simp [k0] <;> rfl) rfl ?_
   refine ⟨_, by rw [HD2.out, HE2.out] <;> rfl, by rw [HL2.out]; exact ⟨fun _ => False, OwnC.nil _ _ _ (fun _ h => h.elim), fun _ h => h.elim⟩, hB5⟩
  case pos =>
   replace hM6 := hM6 hse
   rw [HDn.out.2 (HDn.out.1.trans hse)] at hM6
   rw [hse]
   clear HDn
   have HE2 := Lib.hid (HE4.out.trans hse)
   have HL2 := Lib.hid (show pushRL l p up late = [pushAt l p up late 0, pushAt l p up late 1, pushAt l p up late 2] by rw [HL0.out, if_pos HE2.out])
   have HD2 := Lib.hid (show pushRD l p up late = true by rw [HD0.out, if_pos HE2.out]; exact Hdv.out)
   rw [← HL2.out] at hM6
   clear hse HE4 HL0 HD0
   obtain ⟨F6, vv6, hO6, hV6, hF6, hvM6, hvg6, hgM6, hMb6⟩ := hM6
   have hlen6 : (pushRL l p up late).length = 3 := by rw [HL2.out]; rfl
   obtain ⟨L6, hL6⟩ : ∃ L6, L6 = pushRL l p up late := ⟨_, rfl⟩
   rw [← hL6] at hlen6 hO6 hMb6
   have HL6 := Lib.hid hL6
   clear hL6
   rw [hlen6] at hO6 hMb6
   have hZ : w6.heap[w.heap.size + 2]? = some (.cells #[.slice none 0 0] 24 (0, 0)) := (hb6w.block _ (by omega)).trans (HZ.out _ hR3)
   have hB6 : Below w.heap.size w w6 := (hRb _ hR3).trans (hb6w.mono (by omega))
   have gz := block_cell (j := 0) hZ rfl
   have fz := block_free (j := 0) hZ
   have m0 := block_cell (j := 0) hMb6 rfl
   have HO6 := Lib.hid hO6
   have HF6 := Lib.hid hF6
   have HB6 := Lib.hid hB6
   have HZ6 := Lib.hid hZ
   have hM2 : w2.heap.size ≠ w.heap.size + 2 := by omega
   clear hO6 hV6 hF6 hvM6 hvg6 hgM6 hMb6 hZ hB6 hb6w
   go_wp2_with fail
   have hu5 : Upd (fun b => b = w.heap.size + 2) w6 (w6.setCell ⟨w.heap.size + 2, 0, none⟩ (.slice (some ⟨g, 0, none⟩) 3 c2)) := (Upd.refl (fun b => b = w.heap.size + 2) w6).setCell (p := ⟨w.heap.size + 2, 0, none⟩) (fun _ => rfl) _
   have hk5 : (w6.setCell ⟨w.heap.size + 2, 0, none⟩ (.slice (some ⟨g, 0, none⟩) 3 c2)).heap[w.heap.size + 2]? = some (.cells #[.slice (some ⟨g, 0, none⟩) 3 c2] 24 (0, 0)) := block_setCell (j := 0) HZ6.out (.slice (some ⟨g, 0, none⟩) 3 c2)
   have hB5 := HB6.out.trans (hu5.below (B := w.heap.size) HB6.out.size (fun b hb => by have e2 : b = w.heap.size + 2 := hb; omega))
   have hO7 := HO6.out.upd hu5 (fun b hb e => by have e2 : b = w.heap.size + 2 := e; have := (HF6.out b hb).1; omega) (fun q hq e => by have e2 : q = w.heap.size + 2 := e; have := (HO6.out.block hq).1; omega)
   generalize w6.setCell ⟨w.heap.size + 2, 0, none⟩ (.slice (some ⟨g, 0, none⟩) 3 c2) = x5 at *
   have k0 := block_cell (j := 0) hk5 rfl
   refine bodyPost_ret (v := .tuple #[.agg #[.slice (some ⟨g, 0, none⟩) 3 c2], .bool true, .int .i64 0]) (by simp [results, Tryz.results35, go_sem]; simp [k0] <;> rfl) rfl ?_
   exact ⟨_, by rw [HD2.out, HE2.out], ⟨F6, by rw [← HL6.out]; exact hO7.weaken (fun _ h => h) (fun b hb => ⟨hO7.lt hb, hO7.own hb⟩) (by omega), fun b hb => by have := (HF6.out b hb).1; omega⟩, hB5⟩
 case neg =>
  have Hdv := Lib.hid (show pushDo l p up late = false by rw [Hdo.out]; simpa using hcn)
  obtain rfl := hn5 hcn
  clear hd5 hn5 hcn
  have HFi := Lib.hid (finish_none g c2 w2.heap.size w1.heap.size w5 (prepTo l p up 3) (saysTo l p up 3) _ HM5.out ((prepTo_length _ _ _ 3).trans HL3.out) (saysTo_length _ _ _ 3) hle2)
  have HDn := Lib.hid (done_push (late := late) (y := fun _ => false) HC.out Hck.out (fun i hi => by rw [Hdv.out]; rfl) (fun i hi => doneE_at HL3.out hi) (doneTo_at HL3.out))
  have hse : scan (fullE l p up late) 3 = 0 := scan_of_zero fun k hk => by unfold fullE; rw [if_neg (by rw [Hdv.out]; simp)]
  rw [HDn.out.1, hse] at HFi
  clear HM5
  have hne : ∀ w : World, (binOp BinOp.neq 126 .nilFunc .nilFunc).run Tryz.prog w = .ok (.bool false) w := fun _ => by kernel_rfl
  go_wp2_with fail
  refine HFi.out.mono ?_
  rintro e w6 ⟨rfl, hb6, hM6⟩
  have hb6w := hb5w.trans (hb6.mono (show w.heap.size + 3 ≤ w1.heap.size by omega))
  clear hb6 hb5w HFi
  replace hM6 := hM6 trivial
  rw [HDn.out.2 (HDn.out.1.trans hse)] at hM6
  clear HDn
  have HE2 := Lib.hid (HE4.out.trans hse)
  have HL2 := Lib.hid (show pushRL l p up late = [pushAt l p up late 0, pushAt l p up late 1, pushAt l p up late 2] by rw [HL0.out, if_pos HE2.out])
  have HD2 := Lib.hid (show pushRD l p up late = false by rw [HD0.out, if_pos HE2.out]; exact Hdv.out)
  rw [← HL2.out] at hM6
  clear hse HE4 HL0 HD0
  obtain ⟨F6, vv6, hO6, hV6, hF6, hvM6, hvg6, hgM6, hMb6⟩ := hM6
  have hlen6 : (pushRL l p up late).length = 3 := by rw [HL2.out]; rfl
  obtain ⟨L6, hL6⟩ : ∃ L6, L6 = pushRL l p up late := ⟨_, rfl⟩
  rw [← hL6] at hlen6 hO6 hMb6
  have HL6 := Lib.hid hL6
  clear hL6
  rw [hlen6] at hO6 hMb6
  have hZ : w6.heap[w.heap.size + 2]? = some (.cells #[.slice none 0 0] 24 (0, 0)) := (hb6w.block _ (by omega)).trans (HZ.out _ hR3)
  have hB6 : Below w.heap.size w w6 := (hRb _ hR3).trans (hb6w.mono (by omega))
  have gz := block_cell (j := 0) hZ rfl
  have fz := block_free (j := 0) hZ
  have m0 := block_cell (j := 0) hMb6 rfl
  have HO6 := Lib.hid hO6
  have HF6 := Lib.hid hF6
  have HB6 := Lib.hid hB6
  have HZ6 := Lib.hid hZ
  have hM2 : w2.heap.size ≠ w.heap.size + 2 := by omega
  clear hO6 hV6 hF6 hvM6 hvg6 hgM6 hMb6 hZ hB6 hb6w
  go_wp2_with fail
  have hu5 : Upd (fun b => b = w.heap.size + 2) w6 (w6.setCell ⟨w.heap.size + 2, 0, none⟩ (.slice (some ⟨g, 0, none⟩) 3 c2)) := (Upd.refl (fun b => b = w.heap.size + 2) w6).setCell (p := ⟨w.heap.size + 2, 0, none⟩) (fun _ => rfl) _
  have hk5 : (w6.setCell ⟨w.heap.size + 2, 0, none⟩ (.slice (some ⟨g, 0, none⟩) 3 c2)).heap[w.heap.size + 2]? = some (.cells #[.slice (some ⟨g, 0, none⟩) 3 c2] 24 (0, 0)) := block_setCell (j := 0) HZ6.out (.slice (some ⟨g, 0, none⟩) 3 c2)
  have hB5 := HB6.out.trans (hu5.below (B := w.heap.size) HB6.out.size (fun b hb => by have e2 : b = w.heap.size + 2 := hb; omega))
  have hO7 := HO6.out.upd hu5 (fun b hb e => by have e2 : b = w.heap.size + 2 := e; have := (HF6.out b hb).1; omega) (fun q hq e => by have e2 : q = w.heap.size + 2 := e; have := (HO6.out.block hq).1; omega)
  generalize w6.setCell ⟨w.heap.size + 2, 0, none⟩ (.slice (some ⟨g, 0, none⟩) 3 c2) = x5 at *
  have k0 := block_cell (j := 0) hk5 rfl
  refine bodyPost_ret (v := .tuple #[.agg #[.slice (some ⟨g, 0, none⟩) 3 c2], .bool false, .int .i64 0]) (by simp [results, Tryz.results35, go_sem]; simp [k0] <;> rfl) rfl ?_
  exact ⟨_, by rw [HD2.out, HE2.out], ⟨F6, by rw [← HL6.out]; exact hO7.weaken (fun _ h => h) (fun b hb => ⟨hO7.lt hb, hO7.own hb⟩) (by omega), fun b hb => by have := (HF6.out b hb).1; omega⟩, hB5⟩
set_option maxRecDepth 100000 in
set_option maxHeartbeats 8000000 in
theorem cluPush_any (l : List Rep) (p : Psh) (up late : Int) (v ov uv : Value) (S S1 : Nat → Prop) (w : World) (h : RepsV S w v l) (hp : StoreV S1 w ov p.objects ∧ MvsV S1 w uv p.updates) (ht : Tab w) :
  Calls Tryz.prog 8 #[.agg #[v], pshV p ov uv, .int .i64 up, .int .i64 late] w fun e w' => ∃ v', e = .returned (.tuple #[.agg #[v'], .bool (pushCD l p up late), .int .i64 (pushCE l p up late)]) ∧ OwnF w.heap.size w' v' (pushCL l p up late) ∧ Below w.heap.size w w' := by
 have H := Lib.hid h
 have HP := Lib.hid hp
 have HTw := Lib.hid ht
 obtain ⟨ho, hu⟩ := hp
 obtain ⟨oap, ocp, rfl⟩ := ho.vshape
 obtain ⟨⟨uap, ucp⟩, rfl⟩ := hu.shape
 obtain ⟨a, cap, rfl⟩ := h.vshape
 obtain ⟨R, hR, hR1, HB0⟩ := cls_allocs w [.cells #[.slice a l.length cap] 24, .cells #[.slice oap p.objects.length ocp, .slice uap p.updates.length ucp, .bool p.force] 28, .cells #[.slice none 0 0] 24]
 simp only [List.foldl] at hR1
 have hRb := hR.below
 have hRn := hR.next
 have c0 := fun x (hx : In R x) => block_cell (j := 0) (HB0 x hx 0 _ rfl) rfl
 have p0 := fun x (hx : In R x) => block_cell (j := 0) (HB0 x hx 1 _ rfl) rfl
 have p1 := fun x (hx : In R x) => block_cell (j := 1) (HB0 x hx 1 _ rfl) rfl
 have p2 := fun x (hx : In R x) => block_cell (j := 2) (HB0 x hx 1 _ rfl) rfl
 simp only [Nat.add_zero] at c0
 have HZ := Lib.hid (fun x (hx : In R x) => show x.heap[w.heap.size + 2]? = some (.cells #[.slice none 0 0] 24 (0, 0)) from HB0 x hx 2 _ rfl)
 have HSz := Lib.hid (fun x (hx : In R x) => show w.heap.size + 3 ≤ x.heap.size from lt_of_block (HB0 x hx 2 _ rfl))
 clear HB0
 have HCk := Lib.hid (fun x (hx : In R x) => cluCheck_any l _ _ x (H.out.below (hRb _ hx)))
 have HRw := Lib.hid (fun x (hx : In R x) (hc : RightC l) => cluRaw_any l p up late _ _ _ _ _ x (H.out.below (hRb _ hx)) hc ⟨HP.out.1.below (hRb _ hx), HP.out.2.below (hRb _ hx)⟩ (HTw.out.below (hRb _ hx)))
 simp only [pshV] at HRw
 have HE0 := Lib.hid (show pushCE l p up late = if cluE l ≠ 0 then cluE l else pushRE l p up late from rfl)
 have HL0 := Lib.hid (show pushCL l p up late = if cluE l = 0 then pushRL l p up late else [] from rfl)
 have HD0 := Lib.hid (show pushCD l p up late = if cluE l = 0 then pushRD l p up late else false from rfl)
 have cc := c0 _ hR1
 have Hcr := Lib.hid (fun (h : cluE l = 0) => clu_right.1 h)
 clear h ho hu ht
 simp only [pshV]
 by_cases hz : cluE l = 0
 case neg =>
  have HE2 := Lib.hid (show pushCE l p up late = cluE l by rw [HE0.out, if_pos hz])
  have HL2 := Lib.hid (show pushCL l p up late = [] by rw [HL0.out, if_neg hz])
  have HD2 := Lib.hid (show pushCD l p up late = false by rw [HD0.out, if_neg hz])
  have q1 : (cluE l != 0) = true := by simpa using hz
  clear hz HE0 HL0 HD0 Hcr
  generalize cluE l = ce at *
  go_enter Tryz.func8, Tryz.ntmps8
  go_wp2_with fail
  refine (HCk.out _ hR1).mono ?_
  rintro e w1 ⟨rfl, hb1⟩
  have hR2 := hRn _ _ hR1 hb1
  clear cc hb1
  have hRz := hR2
  have hZ := HZ.out _ hRz
  have gz := block_cell (j := 0) hZ rfl
  have fz := block_free (j := 0) hZ
  go_wp2_with fail
  have hu5 : Upd (fun b => b = w.heap.size + 2) w1 (w1.setCell ⟨w.heap.size + 2, 0, none⟩ (.slice none 0 0)) := (Upd.refl (fun b => b = w.heap.size + 2) w1).setCell (p := ⟨w.heap.size + 2, 0, none⟩) (fun _ => rfl) _
  have hk5 : (w1.setCell ⟨w.heap.size + 2, 0, none⟩ (.slice none 0 0)).heap[w.heap.size + 2]? = some (.cells #[.slice none 0 0] 24 (0, 0)) := block_setCell (j := 0) hZ (.slice none 0 0)
  have hB5 := (hRb _ hRz).trans (hu5.below (B := w.heap.size) (hRb _ hRz).size (fun b hb => by have e2 : b = w.heap.size + 2 := hb; omega))
  generalize w1.setCell ⟨w.heap.size + 2, 0, none⟩ (.slice none 0 0) = x5 at *
  have k0 := block_cell (j := 0) hk5 rfl
  refine bodyPost_ret (v := .tuple #[.agg #[.slice none 0 0], .bool false, .int .i64 ce]) (by simp [results, Tryz.results8, go_sem]; simp [k0] <;> rfl) rfl ?_
  refine ⟨_, by rw [HD2.out, HE2.out] <;> rfl, by rw [HL2.out]; exact ⟨fun _ => False, OwnC.nil _ _ _ (fun _ h => h.elim), fun _ h => h.elim⟩, hB5⟩
 case pos =>
  have HE2 := Lib.hid (show pushCE l p up late = pushRE l p up late by rw [HE0.out, if_neg (by simpa using hz)])
  have HL2 := Lib.hid (show pushCL l p up late = pushRL l p up late by rw [HL0.out, if_pos hz])
  have HD2 := Lib.hid (show pushCD l p up late = pushRD l p up late by rw [HD0.out, if_pos hz])
  have HRx := Lib.hid (fun x (hx : In R x) => HRw.out x hx (Hcr.out hz))
  rw [hz] at HCk
  clear hz HE0 HL0 HD0 Hcr HRw
  go_enter Tryz.func8, Tryz.ntmps8
  go_wp2_with fail
  refine (HCk.out _ hR1).mono ?_
  rintro e w1 ⟨rfl, hb1⟩
  have hR2 := hRn _ _ hR1 hb1
  clear cc hb1
  have cc := c0 _ hR2
  have r0 := p0 _ hR2
  have r1 := p1 _ hR2
  have r2 := p2 _ hR2
  generalize pushRE l p up late = re at *
  generalize pushRL l p up late = rl at *
  generalize pushRD l p up late = rd at *
  go_wp2_with fail
  refine (HRx.out _ hR2).mono ?_
  rintro e w2 ⟨v2, rfl, ⟨F, hO, hF⟩, hb2⟩
  obtain ⟨a2, c2, rfl⟩ := hO.shape
  have hR3 := hRn _ _ hR2 hb2
  have hsz1 := HSz.out _ hR2
  clear cc r0 r1 r2
  have HO := Lib.hid hO
  have HF := Lib.hid hF
  have HRb := Lib.hid (hRb _ hR3)
  clear hO hF hb2
  have hZ := HZ.out _ hR3
  have gz := block_cell (j := 0) hZ rfl
  have fz := block_free (j := 0) hZ
  have HZ3 := Lib.hid hZ
  clear hZ
  go_wp2_with fail
  have hu5 : Upd (fun b => b = w.heap.size + 2) w2 (w2.setCell ⟨w.heap.size + 2, 0, none⟩ (.slice a2 rl.length c2)) := (Upd.refl (fun b => b = w.heap.size + 2) w2).setCell (p := ⟨w.heap.size + 2, 0, none⟩) (fun _ => rfl) _
  have hk5 : (w2.setCell ⟨w.heap.size + 2, 0, none⟩ (.slice a2 rl.length c2)).heap[w.heap.size + 2]? = some (.cells #[.slice a2 rl.length c2] 24 (0, 0)) := block_setCell (j := 0) HZ3.out (.slice a2 rl.length c2)
  have hB5 := HRb.out.trans (hu5.below (B := w.heap.size) HRb.out.size (fun b hb => by have e2 : b = w.heap.size + 2 := hb; omega))
  have hO7 := HO.out.upd hu5 (fun b hb e => by have e2 : b = w.heap.size + 2 := e; have := HF.out b hb; omega) (fun q hq e => by have e2 : q = w.heap.size + 2 := e; have := (HO.out.block hq).1; omega)
  generalize w2.setCell ⟨w.heap.size + 2, 0, none⟩ (.slice a2 rl.length c2) = x5 at *
  have k0 := block_cell (j := 0) hk5 rfl
  refine bodyPost_ret (v := .tuple #[.agg #[.slice a2 rl.length c2], .bool rd, .int .i64 re]) (by simp [results, Tryz.results8, go_sem]; simp [k0] <;> rfl) rfl ?_
  exact ⟨_, by rw [HD2.out, HE2.out], ⟨F, by rw [HL2.out]; exact hO7.weaken (fun _ h => h) (fun b hb => ⟨hO7.lt hb, hO7.own hb⟩) (by omega), fun b hb => by have := HF.out b hb; omega⟩, hB5⟩
end Go.Proofs.YtgkbalhkjolnmaaGreatDoor
