
/- Walks: the law RepairAll. -/
import Derived.Test.YtgkbalhkjolnmaaGreatDoorL22
import Derived.Test.YtgkbalhkjolnmaaGreatDoorL25
import Derived.Test.YtgkbalhkjolnmaaGreatDoorL26
import Derived.Test.YtgkbalhkjolnmaaGreatDoorL27
import Derived.Deep.DeepCutAuto
namespace Go.Proofs.YtgkbalhkjolnmaaGreatDoor
open Go.RowKit
set_option linter.unusedVariables false
set_option linter.unusedSimpArgs false
theorem tip_next {l : List Rf} {k : Nat} (h : k < l.length) : (tipsOf l).take (k + 1) = (tipsOf l).take k ++ [(rf l k).id] := by
 unfold tipsOf
 rw [List.take_succ_eq_append_getElem (by rw [List.length_map]; exact h), List.getElem_map]
 rw [show rf l k = l[k] from at_lt h]
theorem tip_len {l : List Rf} {k : Nat} (h : k ≤ l.length) : ((tipsOf l).take k).length = k := by rw [List.length_take, tipsOf, List.length_map]; omega
theorem tip_all (l : List Rf) : (tipsOf l).take l.length = tipsOf l := by
 have : l.length = (tipsOf l).length := by rw [tipsOf, List.length_map]
 rw [this, List.take_length]
theorem allL_bad {l : List Rep} (h : allE l ≠ 0) : allL l = [] ∧ allN l = 0 := ⟨by unfold allL; rw [if_neg h], by unfold allN; rw [if_neg h]⟩
set_option maxRecDepth 100000 in
set_option maxHeartbeats 32000000 in
theorem repairAll_law (l : List Rep) (cv : Value) (S : Nat → Prop) (w : World) (h : RepsV S w cv l) (ht : Tab w) :
  Calls Tryz.prog 6 #[.agg #[cv]] w fun e w' => e = .returned (.bool true) ∧ Below w.heap.size w w' := by
 have H := Lib.hid h
 have HTw := Lib.hid ht
 obtain ⟨a, cap, rfl⟩ := h.vshape
 obtain ⟨R, hR, hR1, HB0⟩ := cls_allocs w [.cells #[.slice a l.length cap] 24]
 simp only [List.foldl] at hR1
 have hRb := hR.below
 have hRn := hR.next
 have c0 := fun x (hx : In R x) => block_cell (j := 0) (HB0 x hx 0 _ rfl) rfl
 simp only [Nat.add_zero] at c0
 clear HB0
 have HAl := Lib.hid (fun x (hx : In R x) => repairAll_any l _ _ x (H.out.below (hRb _ hx)))
 have cc := c0 _ hR1
 clear h ht
 by_cases hz : allE l = 0
 case neg =>
  obtain ⟨e1, e2⟩ := allL_bad hz
  rw [e1, e2] at HAl
  obtain ⟨al, hal⟩ : ∃ al : List Rep, al = [] := ⟨_, rfl⟩
  rw [← hal] at HAl
  have Hlp := Lib.hid (show al.length * 120 ≤ 140737488351232 by rw [hal]; decide)
  have Hl0 := Lib.hid (show al.length = 0 by rw [hal]; rfl)
  have q1 : (allE l != 0) = true := by simpa using hz
  clear hz e1 e2 hal
  generalize allE l = ce at *
  go_enter Tryz.func6, Tryz.ntmps6
  go_wp2_with fail
  refine (HAl.out _ hR1).mono ?_
  rintro e w1 ⟨v1, rfl, ⟨F1, hO1, hF1⟩, hb1⟩
  obtain ⟨a1, c1, rfl⟩ := hO1.shape
  have hR2 := hRn _ _ hR1 hb1
  clear cc
  have Hv1 := Lib.hid (hO1.any Hlp.out)
  have hbA : Below w1.heap.size w1 (w1.alloc (.cells #[.slice a1 al.length c1] 24)) := (Below.refl _ _).alloc (Nat.le_refl _) _
  have hRA := hR.alloc _ (.cells #[.slice a1 al.length c1] 24) hR2
  have HA := Lib.hid (heap_alloc_new w1 (.cells #[.slice a1 al.length c1] 24))
  have HvA := Lib.hid (Hv1.out.below hbA)
  clear hO1 hF1 hb1 hbA Hv1
  go_wp2_with fail
  refine (repairBegun_any _).mono ?_
  rintro e y1 ⟨rfl, hb2⟩
  have hRB := hRn _ _ hRA hb2
  replace HA := Lib.hid (blk_below HA.out hb2)
  replace HvA := Lib.hid (HvA.out.below hb2)
  clear hb2
  generalize w1.heap.size = DA at *
  go_wp2_with fail
  refine (clusterBegun_any _ (HTw.out.below (hRb _ hRB))).mono ?_
  rintro e y2 ⟨rfl, hb2⟩
  have hRC := hRn _ _ hRB hb2
  replace HA := Lib.hid (blk_below HA.out hb2)
  replace HvA := Lib.hid (HvA.out.below hb2)
  clear hb2
  go_wp2_with fail
  refine (walkBegun_any _).mono ?_
  rintro e y3 ⟨rfl, hb2⟩
  have hRD := hRn _ _ hRC hb2
  replace HA := Lib.hid (blk_below HA.out hb2)
  replace HvA := Lib.hid (HvA.out.below hb2)
  clear hb2
  have y0 := block_cell (j := 0) HA.out rfl
  simp only [Hl0.out] at y0
  have HE := Lib.hid (hRb _ hRD)
  go_wp2_with fail
  go_ret
  exact ⟨rfl, HE.out⟩
 case pos =>
  obtain ⟨hM, hcl⟩ := allMended hz
  have HM := Lib.hid hM
  rw [hz] at HAl
  clear hz hcl hM
  generalize allL l = al at *
  generalize allN l = an at *
  have Hlp := Lib.hid (show al.length * 120 ≤ 140737488351232 by rw [HM.out.right.len]; decide)
  have HL3 := Lib.hid HM.out.len
  have HP3 := Lib.hid HM.out.right.len
  go_enter Tryz.func6, Tryz.ntmps6
  go_wp2_with fail
  refine (HAl.out _ hR1).mono ?_
  rintro e w1 ⟨v1, rfl, ⟨F1, hO1, hF1⟩, hb1⟩
  obtain ⟨a1, c1, rfl⟩ := hO1.shape
  have hR2 := hRn _ _ hR1 hb1
  clear cc
  have Hv1 := Lib.hid (hO1.any Hlp.out)
  have hbA : Below w1.heap.size w1 (w1.alloc (.cells #[.slice a1 al.length c1] 24)) := (Below.refl _ _).alloc (Nat.le_refl _) _
  have hRA := hR.alloc _ (.cells #[.slice a1 al.length c1] 24) hR2
  have HA := Lib.hid (heap_alloc_new w1 (.cells #[.slice a1 al.length c1] 24))
  have HvA := Lib.hid (Hv1.out.below hbA)
  clear hO1 hF1 hb1 hbA Hv1
  go_wp2_with fail
  refine (repairBegun_any _).mono ?_
  rintro e y1 ⟨rfl, hb2⟩
  have hRB := hRn _ _ hRA hb2
  replace HA := Lib.hid (blk_below HA.out hb2)
  replace HvA := Lib.hid (HvA.out.below hb2)
  clear hb2
  generalize w1.heap.size = DA at *
  go_wp2_with fail
  refine (clusterBegun_any _ (HTw.out.below (hRb _ hRB))).mono ?_
  rintro e y2 ⟨rfl, hb2⟩
  have hRC := hRn _ _ hRB hb2
  replace HA := Lib.hid (blk_below HA.out hb2)
  replace HvA := Lib.hid (HvA.out.below hb2)
  clear hb2
  go_wp2_with fail
  refine (walkBegun_any _).mono ?_
  rintro e y3 ⟨rfl, hb2⟩
  have hRD := hRn _ _ hRC hb2
  replace HA := Lib.hid (blk_below HA.out hb2)
  replace HvA := Lib.hid (HvA.out.below hb2)
  clear hb2
  rw [HP3.out] at HA
  have HvB := HvA.out
  rw [HP3.out] at HvB
  obtain ⟨ax, nx, capx, fr, HNx, ex, _, _, _, h4, h5⟩ := H.out.open
  obtain rfl : nx = 3 := HNx.out.trans HL3.out
  rw [HL3.out] at c0 ex
  cases ex
  obtain ⟨b0, off0, rfl, _, _, _, k2, _, _, _, _⟩ := h4 (by omega)
  have Hk2 := Lib.hid k2
  clear h4 h5 HNx k2
  obtain ⟨ay, ny, capy, fa, HNy, ey, _, _, _, h4, h5⟩ := HvB.open
  obtain rfl : ny = 3 := HNy.out.trans HP3.out
  cases ey
  obtain ⟨b1, off1, rfl, _, k0, k1, k2, k3, k4, k5, k6⟩ := h4 (by omega)
  have Ha := Lib.hid (And.intro k0 (And.intro k1 (And.intro k2 (And.intro k3 (And.intro k4 (And.intro k5 k6))))))
  have H6 := Lib.hid h5
  have HvC := Lib.hid HvB
  clear k0 k1 k2 k3 k4 k5 k6 h4 h5 HNy HvB
  obtain ⟨T, hT, hT1, _⟩ := cls_plain y3
  have hTb := hT.below
  have hTn := hT.next
  have hTR : ∀ x, In T x → In R x := fun x hx => hRn _ _ hRD (hTb _ hx)
  have HBt := Lib.hid (fun x (hx : In T x) => hRb _ (hTR _ hx))
  have tc := fun x (hx : In T x) => c0 x (hTR _ hx)
  have tA := fun x (hx : In T x) => below_cell (hTb _ hx) (block_cell (j := 0) HA.out rfl)
  have HA2 := Lib.hid (fun x (hx : In T x) => (show Calls Tryz.prog 21 #[.agg #[.slice (some ⟨b1, off1, none⟩) 3 c1]] x fun e w' => ∃ v', e = .returned (.tuple #[.agg #[v'], .int .i64 0, .int .i64 0]) ∧ OwnF x.heap.size w' v' al ∧ Below x.heap.size x w' from by
   have hC := repairAll_any al _ _ x (HvC.out.below (hTb _ hx))
   rw [HM.out.again.1, HM.out.again.2.1, HM.out.again.2.2] at hC
   exact hC))
  have HCk := Lib.hid (fun x (hx : In T x) => (show Calls Tryz.prog 16 #[.agg #[.slice (some ⟨b1, off1, none⟩) 3 c1]] x fun e w' => e = .returned (.int .i64 0) ∧ Below x.heap.size x w' from by
   have hC := cluCheck_any al _ _ x (HvC.out.below (hTb _ hx))
   rw [HM.out.clu] at hC
   exact hC))
  have HNw := Lib.hid (fun x (hx : In T x) => (show Calls Tryz.prog 9 #[.agg #[.slice (some ⟨b1, off1, none⟩) 3 c1]] x fun e w' => e = .returned (.tuple #[.int .i64 0, .int .i64 0]) ∧ Below x.heap.size x w' from by
   have hC := newest_any al _ _ x (HvC.out.below (hTb _ hx))
   rw [HM.out.clu, show newN al = 0 by unfold newN; rw [if_pos HM.out.clu, HM.out.first]; rfl] at hC
   exact hC))
  have aa := tA _ hT1
  go_wp2_with fail
  refine (HA2.out _ hT1).mono ?_
  rintro e z1 ⟨v2, rfl, ⟨F2, hO2, hF2⟩, hb1⟩
  obtain ⟨a2, c2, rfl⟩ := hO2.shape
  have hT2 := hTn _ _ hT1 hb1
  have Hv2 := Lib.hid (hO2.any Hlp.out)
  rw [HP3.out]
  have hv2 := Hv2.out
  rw [HP3.out] at hv2
  have hT3 := hT.alloc _ (.cells #[.slice a2 3 c2] 24) hT2
  have HBk := Lib.hid (heap_alloc_new z1 (.cells #[.slice a2 3 c2] 24))
  have HvBk := Lib.hid (hv2.below ((Below.refl _ _).alloc (Nat.le_refl _) (.cells #[.slice a2 3 c2] 24)))
  clear hO2 hF2 hb1 aa hv2 Hv2
  have aa := tA _ hT3
  go_wp2_with fail
  refine (HNw.out _ hT3).mono ?_
  rintro e z2 ⟨rfl, hb2⟩
  have hT4 := hTn _ _ hT3 hb2
  replace HBk := Lib.hid (blk_below HBk.out hb2)
  replace HvBk := Lib.hid (HvBk.out.below hb2)
  clear hb2 aa
  generalize z1.heap.size = DB at *
  have aa := tA _ hT4
  have bb := block_cell (j := 0) HBk.out rfl
  have cc := tc _ hT4
  have HSc := Lib.hid (sameCluster_any al al _ _ _ _ z2 (HvC.out.below (hTb _ hT4)) HvBk.out)
  rw [(sameClu_iff _ _).2 rfl] at HSc
  go_wp2_with fail
  refine HSc.out.mono ?_
  rintro e z3 ⟨rfl, hb2⟩
  have hT5 := hTn _ _ hT4 hb2
  clear hb2 aa bb cc HBk HvBk HSc
  have aa := tA _ hT5
  have cc := tc _ hT5
  go_wp2_with fail
  refine (HCk.out _ hT5).mono ?_
  rintro e z4 ⟨rfl, hb2⟩
  have hT6 := hTn _ _ hT5 hb2
  clear hb2 aa cc
  have aa := tA _ hT6
  have cc := tc _ hT6
  have x0 := Ha.out.1 0 z4 (by omega) (hTb _ hT6)
  have x1 := Ha.out.2.1 0 z4 (by omega) (hTb _ hT6)
  have x2 := Ha.out.2.2.1 0 z4 (by omega) (hTb _ hT6)
  have x3 := Ha.out.2.2.2.1 0 z4 (by omega) (hTb _ hT6)
  have x4 := Ha.out.2.2.2.2.1 0 z4 (by omega) (hTb _ hT6)
  have x5 := Ha.out.2.2.2.2.2.1 0 z4 (by omega) (hTb _ hT6)
  have x6 := Ha.out.2.2.2.2.2.2 0 z4 (by omega) (hTb _ hT6)
  simp only [Nat.zero_mul, Nat.add_zero] at x0 x1 x2 x3 x4 x5 x6
  have hT7 := hT.alloc _ (.cells #[.slice (fa 0).sa (rep al 0).store.length (fa 0).sc, .slice (fa 0).ra (rep al 0).refs.length (fa 0).rc, .int .i64 (rep al 0).gen, .int .i64 (rep al 0).phase, .slice (fa 0).oa (rep al 0).pend.objects.length (fa 0).oc, .slice (fa 0).ua (rep al 0).pend.updates.length (fa 0).uc, .bool (rep al 0).pend.force] 43) hT6
  have HX := Lib.hid (heap_alloc_new z4 (.cells #[.slice (fa 0).sa (rep al 0).store.length (fa 0).sc, .slice (fa 0).ra (rep al 0).refs.length (fa 0).rc, .int .i64 (rep al 0).gen, .int .i64 (rep al 0).phase, .slice (fa 0).oa (rep al 0).pend.objects.length (fa 0).oc, .slice (fa 0).ua (rep al 0).pend.updates.length (fa 0).uc, .bool (rep al 0).pend.force] 43))
  have HR0 := Lib.hid (H6.out 0 (by omega)).refs
  go_wp2_with fail
  obtain ⟨t1, ht1⟩ : ∃ t1, t1 = z4.alloc (.cells #[.slice (fa 0).sa (rep al 0).store.length (fa 0).sc, .slice (fa 0).ra (rep al 0).refs.length (fa 0).rc, .int .i64 (rep al 0).gen, .int .i64 (rep al 0).phase, .slice (fa 0).oa (rep al 0).pend.objects.length (fa 0).oc, .slice (fa 0).ua (rep al 0).pend.updates.length (fa 0).uc, .bool (rep al 0).pend.force] 43) := ⟨_, rfl⟩
  rw [← ht1] at HX hT7 ⊢
  clear ht1 aa cc x0 x1 x2 x3 x4 x5 x6
  generalize z4.heap.size = DX at *
  have hxx := block_cell (j := 1) HX.out rfl
  obtain ⟨Q, hQ, hQ1, hQu⟩ := cls_newer t1
  have hQb := hQ.below
  have hQn := hQ.next
  have HQu := Lib.hid hQu
  have HQT := Lib.hid (fun x (hx : In Q x) => hTn _ _ hT7 (hQb _ hx))
  clear hQu
  have dx := fun x (hx : In Q x) (j : Nat) v (hv : (#[.slice (fa 0).sa (rep al 0).store.length (fa 0).sc, .slice (fa 0).ra (rep al 0).refs.length (fa 0).rc, .int .i64 (rep al 0).gen, .int .i64 (rep al 0).phase, .slice (fa 0).oa (rep al 0).pend.objects.length (fa 0).oc, .slice (fa 0).ua (rep al 0).pend.updates.length (fa 0).uc, .bool (rep al 0).pend.force] : Array Value)[j]? = some v) => below_cell (hQb _ hx) (block_cell (j := j) HX.out hv)
  have Hdx := Lib.hid dx
  clear dx hxx
  have x1 := Hdx.out _ hQ1 1 _ rfl
  generalize hrf : (rep al 0).refs = rs at *
  have Hrf := Lib.hid hrf
  clear hrf
  go_loopw [12, 13] (fun s i wr => ∃ k : Nat, k ≤ rs.length ∧ i = .int .i64 k ∧ In Q wr ∧ Hid (wr.ownsRow t1.heap.size 3 1 s ((tipsOf rs).take k).length (((tipsOf rs).take k).map (Value.int .i64)))) (fun _ i _ => rs.length - (intOf i).toNat)
  case atStart => exact ⟨0, Nat.zero_le _, rfl, hQ1, World.ownsRow_nil _ _ _ _⟩
  case round =>
   obtain ⟨k, hk, rfl, hQr, HO⟩ := hrel
   clear x1
   obtain ⟨wo, rfl⟩ : ∃ wo : World, wo = wr := ⟨_, rfl⟩
   have x1 := Hdx.out _ hQr 1 _ rfl
   by_cases hlt : k < rs.length
   case pos =>
    obtain ⟨ar, nr, capr, HNr, er, _, _, hr3, hr4, hr5⟩ := HR0.out.open
    obtain rfl : nr = rs.length := HNr.out
    obtain ⟨br, ofr, har, _, _, hid⟩ := hr4 (by omega)
    have har2 : (fa 0).ra = some ⟨br, ofr, none⟩ := by cases er; exact har
    have hid1 := hid k wo hlt (hTb _ (HQT.out _ hQr))
    have hi64 := (hr5 k hlt).1
    rw [har2] at x1
    have hi1 : (0 : Int) ≤ (k : Int) := by omega
    have hi2 : (k : Int) < (rs.length : Int) := by omega
    have Hnx := Lib.hid (tip_next hlt)
    have hlen := tip_len (l := rs) (k := k) (by omega)
    generalize hidk : (rf rs k).id = id at *
    have hQa := hQ.alloc _ (.cells #[.int .i64 id] 3) hQr
    obtain ⟨v9, x9, hr9, ho9, hu9⟩ := run_append_ints 49 (own_below HO.out ((Below.refl _ _).alloc (Nat.le_refl _) (.cells #[.int .i64 id] 3))) (ints_one (heap_alloc_new wo (.cells #[.int .i64 id] 3)) hi64) (by simp only [List.length_cons, List.length_nil]; omega) (show t1.heap.size ≤ (wo.alloc (.cells #[.int .i64 id] 3)).heap.size from (hQb _ hQa).size)
    rw [← Hnx.out] at ho9
    have hQ9 := HQu.out _ _ _ hQa hu9 (fun b hb => (HO.out.lt b hb).1)
    have HO9 := Lib.hid ho9
    have Hr9 := Lib.hid hr9
    clear ho9 hr9 hu9 hid hr3 hr4 hr5 er har har2 HNr hlen
    go_wp2_with (at_builtin; refine wpList_append_run rfl (.tmp 109) (.tmp 116) 49 rfl _ _ _ rfl rfl Hr9.out ?_)
    go_roundw
    case rel => exact ⟨k + 1, by omega, by go_num, hQ9, HO9.out⟩
    case measure => simp [intOf]; omega
   case neg =>
    obtain rfl : k = rs.length := by omega
    have HIt := Lib.hid (show IntsV (fun b => t1.heap.size ≤ b) wo _ (tipsOf rs) from by
     have ho := HO.out
     rw [tip_all] at ho
     refine own_ints' ho rfl (fun z hz => ?_) ?_
     ·obtain ⟨i, hi, rfl⟩ := tip_mem hz
      obtain ⟨_, nr, _, HNr, _, _, _, _, _, hr5⟩ := HR0.out.open
      exact (hr5 i (by rw [HNr.out]; exact hi)).1
     ·obtain ⟨_, nr, _, HNr, _, _, _, hr3, _⟩ := HR0.out.open
      have hn := HNr.out
      rw [tipsOf, List.length_map]; omega)
    clear HO
    have x0 := Hdx.out _ hQr 0 _ rfl
    have Hth := Lib.hid (fun i (hi : i < 3) => HM.out.there i hi)
    have Hpt := Lib.hid (fun i (hi : i < 3) => HM.out.part i hi)
    rw [Hrf.out] at Hth Hpt
    have HPa := Lib.hid (fun i (hi : i < 3) x tv (S2 : Nat → Prop) (hx : In Q x) (ht : IntsV S2 x tv (tipsOf rs)) => (show Calls Tryz.prog 24 #[.slice (fa i).sa (rep al i).store.length (fa i).sc, tv] x fun e w' => RetStoreE x w' e (partOf (rep al i).store (tipsOf rs)) 0 from by
     have hC := part_any (rep al i).store (tipsOf rs) _ tv _ _ x ((H6.out i hi).store.below (hTb _ (HQT.out _ hx))) ht
     rw [show partRes (rep al i).store (tipsOf rs) = partOf (rep al i).store (tipsOf rs) by unfold partRes; rw [if_pos (Hth.out i hi)], Hth.out i hi] at hC
     exact hC))
    go_wp2_with fail
    refine (HPa.out 0 (by omega) _ _ _ hQr HIt.out).mono ?_
    rintro e s1 ⟨vw, rfl, hvw, hb2⟩
    obtain ⟨aw, cw, rfl⟩ := hvw.vshape
    have hQs := hQn _ _ hQr hb2
    have HIs := Lib.hid (HIt.out.below hb2)
    have Hvw := Lib.hid hvw
    clear hb2 hvw HIt x0 x1
    obtain ⟨P, hP, hP1, _⟩ := cls_plain s1
    have hPb := hP.below
    have hPn := hP.next
    have HPQ := Lib.hid (fun x (hx : In P x) => hQn _ _ hQs (hPb _ hx))
    generalize (partOf (rep al 0).store (tipsOf rs)).length = wn at *
    go_wp2_with fail
    go_loopw [15] (fun i wr => ∃ k : Nat, k ≤ 3 ∧ i = .int .i64 k ∧ In P wr) (fun i _ => 3 - (intOf i).toNat)
    case atStart => exact ⟨0, by omega, rfl, hP1⟩
    case round =>
     obtain ⟨k, hk, rfl, hPr⟩ := hrel
     obtain ⟨wo2, rfl⟩ : ∃ wo2 : World, wo2 = wr := ⟨_, rfl⟩
     have hTr := HQT.out _ (HPQ.out _ hPr)
     have aa := tA _ hTr
     by_cases hlt : k < 3
     case neg =>
      obtain rfl : k = 3 := by omega
      have HE := Lib.hid (HBt.out _ hTr)
      go_wp2_with fail
      go_ret
      exact ⟨rfl, HE.out⟩
     case pos =>
      have hi1 : (0 : Int) ≤ (k : Int) := by omega
      have hi2 : (k : Int) < 3 := by omega
      have x0 := Ha.out.1 k wo2 hlt (hTb _ hTr)
      have x1 := Ha.out.2.1 k wo2 hlt (hTb _ hTr)
      have x2 := Ha.out.2.2.1 k wo2 hlt (hTb _ hTr)
      have x3 := Ha.out.2.2.2.1 k wo2 hlt (hTb _ hTr)
      have x4 := Ha.out.2.2.2.2.1 k wo2 hlt (hTb _ hTr)
      have x5 := Ha.out.2.2.2.2.2.1 k wo2 hlt (hTb _ hTr)
      have x6 := Ha.out.2.2.2.2.2.2 k wo2 hlt (hTb _ hTr)
      have hPa := hP.alloc _ (.cells #[.slice (fa k).sa (rep al k).store.length (fa k).sc, .slice (fa k).ra (rep al k).refs.length (fa k).rc, .int .i64 (rep al k).gen, .int .i64 (rep al k).phase, .slice (fa k).oa (rep al k).pend.objects.length (fa k).oc, .slice (fa k).ua (rep al k).pend.updates.length (fa k).uc, .bool (rep al k).pend.force] 43) hPr
      have HY := Lib.hid (heap_alloc_new wo2 (.cells #[.slice (fa k).sa (rep al k).store.length (fa k).sc, .slice (fa k).ra (rep al k).refs.length (fa k).rc, .int .i64 (rep al k).gen, .int .i64 (rep al k).phase, .slice (fa k).oa (rep al k).pend.objects.length (fa k).oc, .slice (fa k).ua (rep al k).pend.updates.length (fa k).uc, .bool (rep al k).pend.force] 43))
      have HPk := Lib.hid (HPa.out k hlt (wo2.alloc (.cells #[.slice (fa k).sa (rep al k).store.length (fa k).sc, .slice (fa k).ra (rep al k).refs.length (fa k).rc, .int .i64 (rep al k).gen, .int .i64 (rep al k).phase, .slice (fa k).oa (rep al k).pend.objects.length (fa k).oc, .slice (fa k).ua (rep al k).pend.updates.length (fa k).uc, .bool (rep al k).pend.force] 43)) _ _ (HPQ.out _ hPa) (HIs.out.below (hPb _ hPa)))
      have v0 := block_cell (j := 0) HY.out rfl
      go_wp2_with fail
      refine HPk.out.mono ?_
      rintro e s2 ⟨vl, rfl, hvl, hb3⟩
      obtain ⟨al2, cl2, rfl⟩ := hvl.vshape
      have hP2 := hPn _ _ hPa hb3
      replace HY := Lib.hid (blk_below HY.out hb3)
      have Hvl := Lib.hid hvl
      clear hb3 hvl HPk v0 aa x0 x1 x2 x3 x4 x5 x6
      generalize wo2.heap.size = DY at *
      go_upto_region 24 with fail
      obtain ⟨U, hU, hU1, _⟩ := cls_plain s2
      have hUb := hU.below
      have hUn := hU.next
      have HUP := Lib.hid (fun x (hx : In U x) => hPn _ _ hP2 (hUb _ hx))
      have HUT := Lib.hid (fun x (hx : In U x) => HQT.out _ (HPQ.out _ (HUP.out x hx)))
      have e1 := fun x (hx : In U x) => below_cell (hUb _ hx) (block_cell (j := 1) HY.out rfl)
      have g1 := fun x (hx : In U x) => Hdx.out _ (HPQ.out _ (HUP.out x hx)) 1 _ rfl
      have e2 := fun x (hx : In U x) => below_cell (hUb _ hx) (block_cell (j := 2) HY.out rfl)
      have g2 := fun x (hx : In U x) => Hdx.out _ (HPQ.out _ (HUP.out x hx)) 2 _ rfl
      have d0 := fun x (hx : In U x) => tc _ (HUT.out x hx)
      have d2 := fun x (hx : In U x) => Hk2.out k x hlt (HBt.out _ (HUT.out x hx))
      have hgk := HM.out.gen k hlt
      have hrk := HM.out.refs k hlt
      have HSr := Lib.hid (fun x (hx : In U x) => (show Calls Tryz.prog 25 #[.slice (fa k).ra (rep al k).refs.length (fa k).rc, .slice (fa 0).ra rs.length (fa 0).rc] x fun e w' => e = .returned (.bool true) ∧ Below x.heap.size x w' from by
       have hC := sameRefs_any (rep al k).refs (rep al 0).refs _ _ _ _ x ((H6.out k hlt).refs.below (hTb _ (HUT.out x hx))) ((H6.out 0 (by omega)).refs.below (hTb _ (HUT.out x hx)))
       rw [(sameRefs_iff _ _).2 hrk, Hrf.out] at hC
       exact hC))
      have HSs := Lib.hid (fun (hlt2 : (rep l k).gen < (rep al 0).gen) x (hx : In U x) => (show Calls Tryz.prog 26 #[.slice al2 (partOf (rep al k).store (tipsOf rs)).length cl2, .slice aw wn cw] x fun e w' => e = .returned (.bool true) ∧ Below x.heap.size x w' from by
       have hC := sameStore_any _ _ _ _ _ _ x (Hvl.out.below (hUb _ hx)) (Hvw.out.below (hPb _ (HUP.out x hx)))
       rw [(sameStore_iff _ _).2 (Hpt.out k hlt hlt2)] at hC
       exact hC))
      have hgq : ((rep al k).gen != (rep al 0).gen) = false := by rw [hgk]; simp
      clear hgk hrk
      generalize (partOf (rep al k).store (tipsOf rs)).length = pn at *
      refine wp_region_held (S := In U) (by kernel_rfl) ?_
      change wpAnyH _ _ _ _ _ _ _ _ (World.drew _)
      have hC0 := hU.drew _ hU1
      generalize hx0 : s2.drew = x0 at hC0 ⊢
      clear hx0
      by_cases hq : (rep l k).gen < (rep al 0).gen
      case pos =>
       have HSt := Lib.hid (HSs.out hq)
       clear HSs
       refine wpAnyH_take (i := 0) (v := .pointer (some ⟨DY, 2, none⟩)) rfl (by kernel_rfl) (by kernel_rfl) (by kernel_rfl) (fun _ _ _ h => h) (Or.inl ⟨by rfl, fun w hSw => ?_⟩) hC0 ?_
       ·go_simp
       simp only [Act.put, List.getElem_toArray, List.getElem_cons_zero, List.getElem_cons_succ, List.setIfInBounds_toArray, List.set_cons_zero, List.set_cons_succ]
       refine wpAnyH_take (i := 1) (v := .int .i64 (rep al k).gen) rfl (by kernel_rfl) (by kernel_rfl) (by kernel_rfl) (fun _ _ _ h => h) (Or.inl ⟨by rfl, fun w hSw => ?_⟩) hC0 ?_
       ·have yy := e2 _ hSw; go_simp
       simp only [Act.put, List.getElem_toArray, List.getElem_cons_zero, List.getElem_cons_succ, List.setIfInBounds_toArray, List.set_cons_zero, List.set_cons_succ]
       refine wpAnyH_take (i := 2) (v := .pointer (some ⟨DX, 2, none⟩)) rfl (by kernel_rfl) (by kernel_rfl) (by kernel_rfl) (fun _ _ _ h => h) (Or.inl ⟨by rfl, fun w hSw => ?_⟩) hC0 ?_
       ·go_simp
       simp only [Act.put, List.getElem_toArray, List.getElem_cons_zero, List.getElem_cons_succ, List.setIfInBounds_toArray, List.set_cons_zero, List.set_cons_succ]
       refine wpAnyH_take (i := 3) (v := .int .i64 (rep al 0).gen) rfl (by kernel_rfl) (by kernel_rfl) (by kernel_rfl) (fun _ _ _ h => h) (Or.inl ⟨by rfl, fun w hSw => ?_⟩) hC0 ?_
       ·have yy := g2 _ hSw; go_simp
       simp only [Act.put, List.getElem_toArray, List.getElem_cons_zero, List.getElem_cons_succ, List.setIfInBounds_toArray, List.set_cons_zero, List.set_cons_succ]
       refine wpAnyH_take (i := 4) (v := .bool false) rfl (by kernel_rfl) (by kernel_rfl) (by kernel_rfl) (fun _ _ _ h => h) (Or.inl ⟨by rfl, fun w hSw => ?_⟩) hC0 ?_
       ·go_simp
       simp only [Act.put, List.getElem_toArray, List.getElem_cons_zero, List.getElem_cons_succ, List.setIfInBounds_toArray, List.set_cons_zero, List.set_cons_succ]
       refine wpAnyH_take (i := 5) (v := .bool false) rfl (by kernel_rfl) (by kernel_rfl) (by kernel_rfl) (fun _ _ _ h => h) (Or.inl ⟨by rfl, fun w hSw => ?_⟩) hC0 ?_
       ·go_simp
       simp only [Act.put, List.getElem_toArray, List.getElem_cons_zero, List.getElem_cons_succ, List.setIfInBounds_toArray, List.set_cons_zero, List.set_cons_succ]
       refine wpAnyH_take (i := 6) (v := .pointer (some ⟨DY, 1, none⟩)) rfl (by kernel_rfl) (by kernel_rfl) (by kernel_rfl) (fun _ _ _ h => h) (Or.inl ⟨by rfl, fun w hSw => ?_⟩) hC0 ?_
       ·go_simp
       simp only [Act.put, List.getElem_toArray, List.getElem_cons_zero, List.getElem_cons_succ, List.setIfInBounds_toArray, List.set_cons_zero, List.set_cons_succ]
       refine wpAnyH_take (i := 7) (v := .slice (fa k).ra (rep al k).refs.length (fa k).rc) rfl (by kernel_rfl) (by kernel_rfl) (by kernel_rfl) (fun _ _ _ h => h) (Or.inl ⟨by rfl, fun w hSw => ?_⟩) hC0 ?_
       ·have yy := e1 _ hSw; go_simp
       simp only [Act.put, List.getElem_toArray, List.getElem_cons_zero, List.getElem_cons_succ, List.setIfInBounds_toArray, List.set_cons_zero, List.set_cons_succ]
       refine wpAnyH_take (i := 8) (v := .pointer (some ⟨DX, 1, none⟩)) rfl (by kernel_rfl) (by kernel_rfl) (by kernel_rfl) (fun _ _ _ h => h) (Or.inl ⟨by rfl, fun w hSw => ?_⟩) hC0 ?_
       ·go_simp
       simp only [Act.put, List.getElem_toArray, List.getElem_cons_zero, List.getElem_cons_succ, List.setIfInBounds_toArray, List.set_cons_zero, List.set_cons_succ]
       refine wpAnyH_take (i := 9) (v := .slice (fa 0).ra rs.length (fa 0).rc) rfl (by kernel_rfl) (by kernel_rfl) (by kernel_rfl) (fun _ _ _ h => h) (Or.inl ⟨by rfl, fun w hSw => ?_⟩) hC0 ?_
       ·have yy := g1 _ hSw; go_simp
       simp only [Act.put, List.getElem_toArray, List.getElem_cons_zero, List.getElem_cons_succ, List.setIfInBounds_toArray, List.set_cons_zero, List.set_cons_succ]
       refine wpAnyH_all (rs := [10]) (by kernel_rfl) (by simp) (fun j hj => ?_)
       obtain rfl : j = 10 := by simpa using hj
       refine Or.inl ?_
       go_wp2_with fail
       refine (HSr.out _ hC0).mono ?_
       rintro e x1 ⟨rfl, hb0⟩
       have hC1 := hUn _ _ hC0 hb0
       clear hb0
       go_simp
       refine wpAnyH_take (i := 11) (v := .bool false) rfl (by kernel_rfl) (by kernel_rfl) (by kernel_rfl) (fun _ _ _ h => h) (Or.inl ⟨by rfl, fun w hSw => ?_⟩) hC1 ?_
       ·go_simp
       simp only [Act.put, List.getElem_toArray, List.getElem_cons_zero, List.getElem_cons_succ, List.setIfInBounds_toArray, List.set_cons_zero, List.set_cons_succ]
       refine wpAnyH_take (i := 12) (v := .bool false) rfl (by kernel_rfl) (by kernel_rfl) (by kernel_rfl) (fun _ _ _ h => h) (Or.inl ⟨by rfl, fun w hSw => ?_⟩) hC1 ?_
       ·go_simp
       simp only [Act.put, List.getElem_toArray, List.getElem_cons_zero, List.getElem_cons_succ, List.setIfInBounds_toArray, List.set_cons_zero, List.set_cons_succ]
       refine wpAnyH_take (i := 13) (v := .bool false) rfl (by kernel_rfl) (by kernel_rfl) (by kernel_rfl) (fun _ _ _ h => h) (Or.inl ⟨by rfl, fun w hSw => ?_⟩) hC1 ?_
       ·go_simp
       simp only [Act.put, List.getElem_toArray, List.getElem_cons_zero, List.getElem_cons_succ, List.setIfInBounds_toArray, List.set_cons_zero, List.set_cons_succ]
       refine wpAnyH_take (i := 14) (v := .int .i64 0) rfl (by kernel_rfl) (by kernel_rfl) (by kernel_rfl) (fun _ _ _ h => h) (Or.inl ⟨by rfl, fun w hSw => ?_⟩) hC1 ?_
       ·go_simp
       simp only [Act.put, List.getElem_toArray, List.getElem_cons_zero, List.getElem_cons_succ, List.setIfInBounds_toArray, List.set_cons_zero, List.set_cons_succ]
       refine wpAnyH_take (i := 15) (v := .bool false) rfl (by kernel_rfl) (by kernel_rfl) (by kernel_rfl) (fun _ _ _ h => h) (Or.inl ⟨by rfl, fun w hSw => ?_⟩) hC1 ?_
       ·go_simp
       simp only [Act.put, List.getElem_toArray, List.getElem_cons_zero, List.getElem_cons_succ, List.setIfInBounds_toArray, List.set_cons_zero, List.set_cons_succ]
       refine wpAnyH_take (i := 16) (v := .bool false) rfl (by kernel_rfl) (by kernel_rfl) (by kernel_rfl) (fun _ _ _ h => h) (Or.inl ⟨by rfl, fun w hSw => ?_⟩) hC1 ?_
       ·go_simp
       simp only [Act.put, List.getElem_toArray, List.getElem_cons_zero, List.getElem_cons_succ, List.setIfInBounds_toArray, List.set_cons_zero, List.set_cons_succ]
       refine wpAnyH_take (i := 17) (v := .bool false) rfl (by kernel_rfl) (by kernel_rfl) (by kernel_rfl) (fun _ _ _ h => h) (Or.inl ⟨by rfl, fun w hSw => ?_⟩) hC1 ?_
       ·go_simp
       simp only [Act.put, List.getElem_toArray, List.getElem_cons_zero, List.getElem_cons_succ, List.setIfInBounds_toArray, List.set_cons_zero, List.set_cons_succ]
       refine wpAnyH_take (i := 18) (v := .pointer (some ⟨w.heap.size, 0, none⟩)) rfl (by kernel_rfl) (by kernel_rfl) (by kernel_rfl) (fun _ _ _ h => h) (Or.inl ⟨by rfl, fun w hSw => ?_⟩) hC1 ?_
       ·go_simp
       simp only [Act.put, List.getElem_toArray, List.getElem_cons_zero, List.getElem_cons_succ, List.setIfInBounds_toArray, List.set_cons_zero, List.set_cons_succ]
       refine wpAnyH_take (i := 19) (v := .slice (some ⟨b0, off0, none⟩) 3 cap) rfl (by kernel_rfl) (by kernel_rfl) (by kernel_rfl) (fun _ _ _ h => h) (Or.inl ⟨by rfl, fun w hSw => ?_⟩) hC1 ?_
       ·have yy := d0 _ hSw; go_simp
       simp only [Act.put, List.getElem_toArray, List.getElem_cons_zero, List.getElem_cons_succ, List.setIfInBounds_toArray, List.set_cons_zero, List.set_cons_succ]
       refine wpAnyH_take (i := 20) (v := .int .i64 (k : Int)) rfl (by kernel_rfl) (by kernel_rfl) (by kernel_rfl) (fun _ _ _ h => h) (Or.inl ⟨by rfl, fun w hSw => ?_⟩) hC1 ?_
       ·go_simp
       simp only [Act.put, List.getElem_toArray, List.getElem_cons_zero, List.getElem_cons_succ, List.setIfInBounds_toArray, List.set_cons_zero, List.set_cons_succ]
       refine wpAnyH_take (i := 21) (v := .pointer (some ⟨b0, off0 + k * 7, none⟩)) rfl (by kernel_rfl) (by kernel_rfl) (by kernel_rfl) (fun _ _ _ h => h) (Or.inl ⟨by rfl, fun w hSw => ?_⟩) hC1 ?_
       ·go_simp
       simp only [Act.put, List.getElem_toArray, List.getElem_cons_zero, List.getElem_cons_succ, List.setIfInBounds_toArray, List.set_cons_zero, List.set_cons_succ]
       refine wpAnyH_take (i := 22) (v := .pointer (some ⟨b0, off0 + k * 7 + 2, none⟩)) rfl (by kernel_rfl) (by kernel_rfl) (by kernel_rfl) (fun _ _ _ h => h) (Or.inl ⟨by rfl, fun w hSw => ?_⟩) hC1 ?_
       ·go_simp
       simp only [Act.put, List.getElem_toArray, List.getElem_cons_zero, List.getElem_cons_succ, List.setIfInBounds_toArray, List.set_cons_zero, List.set_cons_succ]
       refine wpAnyH_take (i := 23) (v := .int .i64 (rep l k).gen) rfl (by kernel_rfl) (by kernel_rfl) (by kernel_rfl) (fun _ _ _ h => h) (Or.inl ⟨by rfl, fun w hSw => ?_⟩) hC1 ?_
       ·have yy := d2 _ hSw; go_simp
       simp only [Act.put, List.getElem_toArray, List.getElem_cons_zero, List.getElem_cons_succ, List.setIfInBounds_toArray, List.set_cons_zero, List.set_cons_succ]
       refine wpAnyH_take (i := 24) (v := .pointer (some ⟨DX, 2, none⟩)) rfl (by kernel_rfl) (by kernel_rfl) (by kernel_rfl) (fun _ _ _ h => h) (Or.inl ⟨by rfl, fun w hSw => ?_⟩) hC1 ?_
       ·go_simp
       simp only [Act.put, List.getElem_toArray, List.getElem_cons_zero, List.getElem_cons_succ, List.setIfInBounds_toArray, List.set_cons_zero, List.set_cons_succ]
       refine wpAnyH_take (i := 25) (v := .int .i64 (rep al 0).gen) rfl (by kernel_rfl) (by kernel_rfl) (by kernel_rfl) (fun _ _ _ h => h) (Or.inl ⟨by rfl, fun w hSw => ?_⟩) hC1 ?_
       ·have yy := g2 _ hSw; go_simp
       simp only [Act.put, List.getElem_toArray, List.getElem_cons_zero, List.getElem_cons_succ, List.setIfInBounds_toArray, List.set_cons_zero, List.set_cons_succ]
       refine wpAnyH_take (i := 26) (v := .bool true) rfl (by kernel_rfl) (by kernel_rfl) (by kernel_rfl) (fun _ _ _ h => h) (Or.inl ⟨by rfl, fun w hSw => ?_⟩) hC1 ?_
       ·go_simp
       simp only [Act.put, List.getElem_toArray, List.getElem_cons_zero, List.getElem_cons_succ, List.setIfInBounds_toArray, List.set_cons_zero, List.set_cons_succ]
       refine wpAnyH_take (i := 27) (v := .bool true) rfl (by kernel_rfl) (by kernel_rfl) (by kernel_rfl) (fun _ _ _ h => h) (Or.inl ⟨by rfl, fun w hSw => ?_⟩) hC1 ?_
       ·go_simp
       simp only [Act.put, List.getElem_toArray, List.getElem_cons_zero, List.getElem_cons_succ, List.setIfInBounds_toArray, List.set_cons_zero, List.set_cons_succ]
       refine wpAnyH_take (i := 28) (v := .slice al2 pn cl2) rfl (by kernel_rfl) (by kernel_rfl) (by kernel_rfl) (fun _ _ _ h => h) (Or.inl ⟨by rfl, fun w hSw => ?_⟩) hC1 ?_
       ·go_simp
       simp only [Act.put, List.getElem_toArray, List.getElem_cons_zero, List.getElem_cons_succ, List.setIfInBounds_toArray, List.set_cons_zero, List.set_cons_succ]
       refine wpAnyH_take (i := 29) (v := .slice aw wn cw) rfl (by kernel_rfl) (by kernel_rfl) (by kernel_rfl) (fun _ _ _ h => h) (Or.inl ⟨by rfl, fun w hSw => ?_⟩) hC1 ?_
       ·go_simp
       simp only [Act.put, List.getElem_toArray, List.getElem_cons_zero, List.getElem_cons_succ, List.setIfInBounds_toArray, List.set_cons_zero, List.set_cons_succ]
       refine wpAnyH_all (rs := [30]) (by kernel_rfl) (by simp) (fun j hj => ?_)
       obtain rfl : j = 30 := by simpa using hj
       refine Or.inl ?_
       go_wp2_with fail
       refine (HSt.out _ hC1).mono ?_
       rintro e x2 ⟨rfl, hb0⟩
       have hC2 := hUn _ _ hC1 hb0
       clear hb0
       go_simp
       refine wpAnyH_take (i := 31) (v := .bool false) rfl (by kernel_rfl) (by kernel_rfl) (by kernel_rfl) (fun _ _ _ h => h) (Or.inl ⟨by rfl, fun w hSw => ?_⟩) hC2 ?_
       ·go_simp
       simp only [Act.put, List.getElem_toArray, List.getElem_cons_zero, List.getElem_cons_succ, List.setIfInBounds_toArray, List.set_cons_zero, List.set_cons_succ]
       refine wpAnyH_take (i := 32) (v := .bool false) rfl (by kernel_rfl) (by kernel_rfl) (by kernel_rfl) (fun _ _ _ h => h) (Or.inl ⟨by rfl, fun w hSw => ?_⟩) hC2 ?_
       ·go_simp
       simp only [Act.put, List.getElem_toArray, List.getElem_cons_zero, List.getElem_cons_succ, List.setIfInBounds_toArray, List.set_cons_zero, List.set_cons_succ]
       refine wpAnyH_take (i := 33) (v := .bool false) rfl (by kernel_rfl) (by kernel_rfl) (by kernel_rfl) (fun _ _ _ h => h) (Or.inl ⟨by rfl, fun w hSw => ?_⟩) hC2 ?_
       ·go_simp
       simp only [Act.put, List.getElem_toArray, List.getElem_cons_zero, List.getElem_cons_succ, List.setIfInBounds_toArray, List.set_cons_zero, List.set_cons_succ]
       refine wpAnyH_done (by kernel_rfl) ?_ _
       have hPe := HUP.out _ hC2
       go_wp2_with fail
       go_roundw
       case rel => exact ⟨k + 1, by omega, by go_num, hPe⟩
       case measure => simp [intOf]; omega
      case neg =>
       clear HSs
       refine wpAnyH_take (i := 0) (v := .pointer (some ⟨DY, 2, none⟩)) rfl (by kernel_rfl) (by kernel_rfl) (by kernel_rfl) (fun _ _ _ h => h) (Or.inl ⟨by rfl, fun w hSw => ?_⟩) hC0 ?_
       ·go_simp
       simp only [Act.put, List.getElem_toArray, List.getElem_cons_zero, List.getElem_cons_succ, List.setIfInBounds_toArray, List.set_cons_zero, List.set_cons_succ]
       refine wpAnyH_take (i := 1) (v := .int .i64 (rep al k).gen) rfl (by kernel_rfl) (by kernel_rfl) (by kernel_rfl) (fun _ _ _ h => h) (Or.inl ⟨by rfl, fun w hSw => ?_⟩) hC0 ?_
       ·have yy := e2 _ hSw; go_simp
       simp only [Act.put, List.getElem_toArray, List.getElem_cons_zero, List.getElem_cons_succ, List.setIfInBounds_toArray, List.set_cons_zero, List.set_cons_succ]
       refine wpAnyH_take (i := 2) (v := .pointer (some ⟨DX, 2, none⟩)) rfl (by kernel_rfl) (by kernel_rfl) (by kernel_rfl) (fun _ _ _ h => h) (Or.inl ⟨by rfl, fun w hSw => ?_⟩) hC0 ?_
       ·go_simp
       simp only [Act.put, List.getElem_toArray, List.getElem_cons_zero, List.getElem_cons_succ, List.setIfInBounds_toArray, List.set_cons_zero, List.set_cons_succ]
       refine wpAnyH_take (i := 3) (v := .int .i64 (rep al 0).gen) rfl (by kernel_rfl) (by kernel_rfl) (by kernel_rfl) (fun _ _ _ h => h) (Or.inl ⟨by rfl, fun w hSw => ?_⟩) hC0 ?_
       ·have yy := g2 _ hSw; go_simp
       simp only [Act.put, List.getElem_toArray, List.getElem_cons_zero, List.getElem_cons_succ, List.setIfInBounds_toArray, List.set_cons_zero, List.set_cons_succ]
       refine wpAnyH_take (i := 4) (v := .bool false) rfl (by kernel_rfl) (by kernel_rfl) (by kernel_rfl) (fun _ _ _ h => h) (Or.inl ⟨by rfl, fun w hSw => ?_⟩) hC0 ?_
       ·go_simp
       simp only [Act.put, List.getElem_toArray, List.getElem_cons_zero, List.getElem_cons_succ, List.setIfInBounds_toArray, List.set_cons_zero, List.set_cons_succ]
       refine wpAnyH_take (i := 5) (v := .bool false) rfl (by kernel_rfl) (by kernel_rfl) (by kernel_rfl) (fun _ _ _ h => h) (Or.inl ⟨by rfl, fun w hSw => ?_⟩) hC0 ?_
       ·go_simp
       simp only [Act.put, List.getElem_toArray, List.getElem_cons_zero, List.getElem_cons_succ, List.setIfInBounds_toArray, List.set_cons_zero, List.set_cons_succ]
       refine wpAnyH_take (i := 6) (v := .pointer (some ⟨DY, 1, none⟩)) rfl (by kernel_rfl) (by kernel_rfl) (by kernel_rfl) (fun _ _ _ h => h) (Or.inl ⟨by rfl, fun w hSw => ?_⟩) hC0 ?_
       ·go_simp
       simp only [Act.put, List.getElem_toArray, List.getElem_cons_zero, List.getElem_cons_succ, List.setIfInBounds_toArray, List.set_cons_zero, List.set_cons_succ]
       refine wpAnyH_take (i := 7) (v := .slice (fa k).ra (rep al k).refs.length (fa k).rc) rfl (by kernel_rfl) (by kernel_rfl) (by kernel_rfl) (fun _ _ _ h => h) (Or.inl ⟨by rfl, fun w hSw => ?_⟩) hC0 ?_
       ·have yy := e1 _ hSw; go_simp
       simp only [Act.put, List.getElem_toArray, List.getElem_cons_zero, List.getElem_cons_succ, List.setIfInBounds_toArray, List.set_cons_zero, List.set_cons_succ]
       refine wpAnyH_take (i := 8) (v := .pointer (some ⟨DX, 1, none⟩)) rfl (by kernel_rfl) (by kernel_rfl) (by kernel_rfl) (fun _ _ _ h => h) (Or.inl ⟨by rfl, fun w hSw => ?_⟩) hC0 ?_
       ·go_simp
       simp only [Act.put, List.getElem_toArray, List.getElem_cons_zero, List.getElem_cons_succ, List.setIfInBounds_toArray, List.set_cons_zero, List.set_cons_succ]
       refine wpAnyH_take (i := 9) (v := .slice (fa 0).ra rs.length (fa 0).rc) rfl (by kernel_rfl) (by kernel_rfl) (by kernel_rfl) (fun _ _ _ h => h) (Or.inl ⟨by rfl, fun w hSw => ?_⟩) hC0 ?_
       ·have yy := g1 _ hSw; go_simp
       simp only [Act.put, List.getElem_toArray, List.getElem_cons_zero, List.getElem_cons_succ, List.setIfInBounds_toArray, List.set_cons_zero, List.set_cons_succ]
       refine wpAnyH_all (rs := [10]) (by kernel_rfl) (by simp) (fun j hj => ?_)
       obtain rfl : j = 10 := by simpa using hj
       refine Or.inl ?_
       go_wp2_with fail
       refine (HSr.out _ hC0).mono ?_
       rintro e x1 ⟨rfl, hb0⟩
       have hC1 := hUn _ _ hC0 hb0
       clear hb0
       go_simp
       refine wpAnyH_take (i := 11) (v := .bool false) rfl (by kernel_rfl) (by kernel_rfl) (by kernel_rfl) (fun _ _ _ h => h) (Or.inl ⟨by rfl, fun w hSw => ?_⟩) hC1 ?_
       ·go_simp
       simp only [Act.put, List.getElem_toArray, List.getElem_cons_zero, List.getElem_cons_succ, List.setIfInBounds_toArray, List.set_cons_zero, List.set_cons_succ]
       refine wpAnyH_take (i := 12) (v := .bool false) rfl (by kernel_rfl) (by kernel_rfl) (by kernel_rfl) (fun _ _ _ h => h) (Or.inl ⟨by rfl, fun w hSw => ?_⟩) hC1 ?_
       ·go_simp
       simp only [Act.put, List.getElem_toArray, List.getElem_cons_zero, List.getElem_cons_succ, List.setIfInBounds_toArray, List.set_cons_zero, List.set_cons_succ]
       refine wpAnyH_take (i := 13) (v := .bool false) rfl (by kernel_rfl) (by kernel_rfl) (by kernel_rfl) (fun _ _ _ h => h) (Or.inl ⟨by rfl, fun w hSw => ?_⟩) hC1 ?_
       ·go_simp
       simp only [Act.put, List.getElem_toArray, List.getElem_cons_zero, List.getElem_cons_succ, List.setIfInBounds_toArray, List.set_cons_zero, List.set_cons_succ]
       refine wpAnyH_take (i := 14) (v := .int .i64 0) rfl (by kernel_rfl) (by kernel_rfl) (by kernel_rfl) (fun _ _ _ h => h) (Or.inl ⟨by rfl, fun w hSw => ?_⟩) hC1 ?_
       ·go_simp
       simp only [Act.put, List.getElem_toArray, List.getElem_cons_zero, List.getElem_cons_succ, List.setIfInBounds_toArray, List.set_cons_zero, List.set_cons_succ]
       refine wpAnyH_take (i := 15) (v := .bool false) rfl (by kernel_rfl) (by kernel_rfl) (by kernel_rfl) (fun _ _ _ h => h) (Or.inl ⟨by rfl, fun w hSw => ?_⟩) hC1 ?_
       ·go_simp
       simp only [Act.put, List.getElem_toArray, List.getElem_cons_zero, List.getElem_cons_succ, List.setIfInBounds_toArray, List.set_cons_zero, List.set_cons_succ]
       refine wpAnyH_take (i := 16) (v := .bool false) rfl (by kernel_rfl) (by kernel_rfl) (by kernel_rfl) (fun _ _ _ h => h) (Or.inl ⟨by rfl, fun w hSw => ?_⟩) hC1 ?_
       ·go_simp
       simp only [Act.put, List.getElem_toArray, List.getElem_cons_zero, List.getElem_cons_succ, List.setIfInBounds_toArray, List.set_cons_zero, List.set_cons_succ]
       refine wpAnyH_take (i := 17) (v := .bool false) rfl (by kernel_rfl) (by kernel_rfl) (by kernel_rfl) (fun _ _ _ h => h) (Or.inl ⟨by rfl, fun w hSw => ?_⟩) hC1 ?_
       ·go_simp
       simp only [Act.put, List.getElem_toArray, List.getElem_cons_zero, List.getElem_cons_succ, List.setIfInBounds_toArray, List.set_cons_zero, List.set_cons_succ]
       refine wpAnyH_take (i := 18) (v := .pointer (some ⟨w.heap.size, 0, none⟩)) rfl (by kernel_rfl) (by kernel_rfl) (by kernel_rfl) (fun _ _ _ h => h) (Or.inl ⟨by rfl, fun w hSw => ?_⟩) hC1 ?_
       ·go_simp
       simp only [Act.put, List.getElem_toArray, List.getElem_cons_zero, List.getElem_cons_succ, List.setIfInBounds_toArray, List.set_cons_zero, List.set_cons_succ]
       refine wpAnyH_take (i := 19) (v := .slice (some ⟨b0, off0, none⟩) 3 cap) rfl (by kernel_rfl) (by kernel_rfl) (by kernel_rfl) (fun _ _ _ h => h) (Or.inl ⟨by rfl, fun w hSw => ?_⟩) hC1 ?_
       ·have yy := d0 _ hSw; go_simp
       simp only [Act.put, List.getElem_toArray, List.getElem_cons_zero, List.getElem_cons_succ, List.setIfInBounds_toArray, List.set_cons_zero, List.set_cons_succ]
       refine wpAnyH_take (i := 20) (v := .int .i64 (k : Int)) rfl (by kernel_rfl) (by kernel_rfl) (by kernel_rfl) (fun _ _ _ h => h) (Or.inl ⟨by rfl, fun w hSw => ?_⟩) hC1 ?_
       ·go_simp
       simp only [Act.put, List.getElem_toArray, List.getElem_cons_zero, List.getElem_cons_succ, List.setIfInBounds_toArray, List.set_cons_zero, List.set_cons_succ]
       refine wpAnyH_take (i := 21) (v := .pointer (some ⟨b0, off0 + k * 7, none⟩)) rfl (by kernel_rfl) (by kernel_rfl) (by kernel_rfl) (fun _ _ _ h => h) (Or.inl ⟨by rfl, fun w hSw => ?_⟩) hC1 ?_
       ·go_simp
       simp only [Act.put, List.getElem_toArray, List.getElem_cons_zero, List.getElem_cons_succ, List.setIfInBounds_toArray, List.set_cons_zero, List.set_cons_succ]
       refine wpAnyH_take (i := 22) (v := .pointer (some ⟨b0, off0 + k * 7 + 2, none⟩)) rfl (by kernel_rfl) (by kernel_rfl) (by kernel_rfl) (fun _ _ _ h => h) (Or.inl ⟨by rfl, fun w hSw => ?_⟩) hC1 ?_
       ·go_simp
       simp only [Act.put, List.getElem_toArray, List.getElem_cons_zero, List.getElem_cons_succ, List.setIfInBounds_toArray, List.set_cons_zero, List.set_cons_succ]
       refine wpAnyH_take (i := 23) (v := .int .i64 (rep l k).gen) rfl (by kernel_rfl) (by kernel_rfl) (by kernel_rfl) (fun _ _ _ h => h) (Or.inl ⟨by rfl, fun w hSw => ?_⟩) hC1 ?_
       ·have yy := d2 _ hSw; go_simp
       simp only [Act.put, List.getElem_toArray, List.getElem_cons_zero, List.getElem_cons_succ, List.setIfInBounds_toArray, List.set_cons_zero, List.set_cons_succ]
       refine wpAnyH_take (i := 24) (v := .pointer (some ⟨DX, 2, none⟩)) rfl (by kernel_rfl) (by kernel_rfl) (by kernel_rfl) (fun _ _ _ h => h) (Or.inl ⟨by rfl, fun w hSw => ?_⟩) hC1 ?_
       ·go_simp
       simp only [Act.put, List.getElem_toArray, List.getElem_cons_zero, List.getElem_cons_succ, List.setIfInBounds_toArray, List.set_cons_zero, List.set_cons_succ]
       refine wpAnyH_take (i := 25) (v := .int .i64 (rep al 0).gen) rfl (by kernel_rfl) (by kernel_rfl) (by kernel_rfl) (fun _ _ _ h => h) (Or.inl ⟨by rfl, fun w hSw => ?_⟩) hC1 ?_
       ·have yy := g2 _ hSw; go_simp
       simp only [Act.put, List.getElem_toArray, List.getElem_cons_zero, List.getElem_cons_succ, List.setIfInBounds_toArray, List.set_cons_zero, List.set_cons_succ]
       refine wpAnyH_take (i := 26) (v := .bool false) rfl (by kernel_rfl) (by kernel_rfl) (by kernel_rfl) (fun _ _ _ h => h) (Or.inl ⟨by rfl, fun w hSw => ?_⟩) hC1 ?_
       ·go_simp
       simp only [Act.put, List.getElem_toArray, List.getElem_cons_zero, List.getElem_cons_succ, List.setIfInBounds_toArray, List.set_cons_zero, List.set_cons_succ]
       refine wpAnyH_take (i := 27) (v := .bool false) rfl (by kernel_rfl) (by kernel_rfl) (by kernel_rfl) (fun _ _ _ h => h) (Or.inl ⟨by rfl, fun w hSw => ?_⟩) hC1 ?_
       ·go_simp
       simp only [Act.put, List.getElem_toArray, List.getElem_cons_zero, List.getElem_cons_succ, List.setIfInBounds_toArray, List.set_cons_zero, List.set_cons_succ]
       refine wpAnyH_take (i := 28) (v := undef) rfl (by kernel_rfl) (by kernel_rfl) (by kernel_rfl) (fun _ _ _ h => h) (Or.inr ⟨by rfl, rfl⟩) hC1 ?_
       simp only [Act.put, List.getElem_toArray, List.getElem_cons_zero, List.getElem_cons_succ, List.setIfInBounds_toArray, List.set_cons_zero, List.set_cons_succ]
       refine wpAnyH_take (i := 29) (v := undef) rfl (by kernel_rfl) (by kernel_rfl) (by kernel_rfl) (fun _ _ _ h => h) (Or.inr ⟨by rfl, rfl⟩) hC1 ?_
       simp only [Act.put, List.getElem_toArray, List.getElem_cons_zero, List.getElem_cons_succ, List.setIfInBounds_toArray, List.set_cons_zero, List.set_cons_succ]
       refine wpAnyH_take (i := 30) (v := undef) rfl (by kernel_rfl) (by kernel_rfl) (by kernel_rfl) (fun _ _ _ h => h) (Or.inr ⟨by rfl, rfl⟩) hC1 ?_
       simp only [Act.put, List.getElem_toArray, List.getElem_cons_zero, List.getElem_cons_succ, List.setIfInBounds_toArray, List.set_cons_zero, List.set_cons_succ]
       refine wpAnyH_take (i := 31) (v := undef) rfl (by kernel_rfl) (by kernel_rfl) (by kernel_rfl) (fun _ _ _ h => h) (Or.inr ⟨by rfl, rfl⟩) hC1 ?_
       simp only [Act.put, List.getElem_toArray, List.getElem_cons_zero, List.getElem_cons_succ, List.setIfInBounds_toArray, List.set_cons_zero, List.set_cons_succ]
       refine wpAnyH_take (i := 32) (v := .bool false) rfl (by kernel_rfl) (by kernel_rfl) (by kernel_rfl) (fun _ _ _ h => h) (Or.inl ⟨by rfl, fun w hSw => ?_⟩) hC1 ?_
       ·go_simp
       simp only [Act.put, List.getElem_toArray, List.getElem_cons_zero, List.getElem_cons_succ, List.setIfInBounds_toArray, List.set_cons_zero, List.set_cons_succ]
       refine wpAnyH_take (i := 33) (v := .bool false) rfl (by kernel_rfl) (by kernel_rfl) (by kernel_rfl) (fun _ _ _ h => h) (Or.inl ⟨by rfl, fun w hSw => ?_⟩) hC1 ?_
       ·go_simp
       simp only [Act.put, List.getElem_toArray, List.getElem_cons_zero, List.getElem_cons_succ, List.setIfInBounds_toArray, List.set_cons_zero, List.set_cons_succ]
       refine wpAnyH_done (by kernel_rfl) ?_ _
       have hPe := HUP.out _ hC1
       go_wp2_with fail
       go_roundw
       case rel => exact ⟨k + 1, by omega, by go_num, hPe⟩
       case measure => simp [intOf]; omega
end Go.Proofs.YtgkbalhkjolnmaaGreatDoor
