
/- Walks: the law VoteSame. -/
import Derived.Test.YtdhoodloklgokaaGreatDoorVoteG
import Derived.Test.YtdhoodloklgokaaGreatDoorSwapU
import Derived.Deep.DeepCutAuto
namespace Go.Proofs.YtdhoodloklgokaaGreatDoor
open Go.RowKit
set_option linter.unusedVariables false
set_option linter.unusedSimpArgs false

/-- all that comes behind w0, and may be written where it is new -/
theorem cls_fresh (w0 : World) : ∃ Q : World → Prop, Cls w0 Q ∧ In Q w0 ∧ ∀ x y (T : Nat → Prop), In Q x → Upd T x y → (∀ b, T b → w0.heap.size ≤ b) → In Q y :=
  ⟨_, cls_of w0 w0 w0.heap.size (Nat.le_refl _) (Nat.le_refl _) (Below.refl _ _), Below.refl _ _, fun x y T hx hu hT => Below.trans (hx : Below _ _ _) (hu.below (Below.size (hx : Below _ _ _)) hT)⟩
theorem blkB {w w' : World} {D : Nat} {o : Go.Obj} (h : w.heap[D]? = some o) (hb : Below w.heap.size w w') : w'.heap[D]? = some o := (hb.block _ (lt_of_block h)).trans h
theorem own_other {w : World} {B : Nat} {v : Value} {l : List Mv} (h : OwnU B w v l) {D : Nat} {cs : Array Value} (hD : w.heap[D]? = some (.cells cs 26 (0, 0))) : v.ownBlock ≠ some D := own_ne h.1 hD (by decide)

set_option maxRecDepth 100000 in
set_option maxHeartbeats 16000000 in
theorem voteSame_any (r : Rep) (p : Psh) (turned : Bool) (sv rv ov2 uv2 ov uv : Value) (S S1 : Nat → Prop) (w : World) (h : RepIs S w r sv rv ov2 uv2) (hp : StoreV S1 w ov p.objects ∧ MvsV S1 w uv p.updates) (ht : Tab w) :
    Calls Tryz.prog 16 #[repV r sv rv ov2 uv2, pshV p ov uv, .bool turned] w fun e w' => e = .returned (.bool true) ∧ Below w.heap.size w w' := by
  have h2 := And.intro (StoreV.shape3 h.objs) (MvsV.shape3 h.upds)
  have hs := h.store
  have hr := h.refs
  obtain ⟨ho, hu⟩ := hp
  clear h
  have HO := Lib.hid (fun x (hx : Below w.heap.size w x) => of_any r p _ _ _ _ _ _ _ _ _ _ x (hs.below hx) (hr.below hx) (ho.below hx) (hu.below hx) h2 (ht.below hx))
  have HOq := Lib.hid (fun (us : List Mv) vv (T : Nat → Prop) x (hx : Below w.heap.size w x) (hv : MvsV T x vv us) => of_any r ⟨p.objects, us, p.force⟩ _ _ _ vv _ _ _ _ _ _ x (hs.below hx) (hr.below hx) (ho.below hx) hv h2 (ht.below hx))
  have HTr := Lib.hid (fun x (hx : Below w.heap.size w x) => pushTry_any r p _ _ _ _ _ _ _ _ _ _ x (hs.below hx) (hr.below hx) (ho.below hx) (hu.below hx) h2)
  have HB := Lib.hid (fun x (hx : Below w.heap.size w x) => voteBegun_any x (ht.below hx))
  have HU0 := Lib.hid hu
  have Hby := Lib.hid hu.bytes
  unfold repV pshV
  obtain ⟨sa, sc, rfl⟩ := hs.vshape
  obtain ⟨⟨ra, rc⟩, rfl⟩ := hr.shape
  obtain ⟨oa, oc, rfl⟩ := ho.vshape
  obtain ⟨⟨ua, uc⟩, rfl⟩ := hu.shape
  obtain ⟨⟨oa2, on2, oc2, rfl⟩, ⟨ua2, un2, uc2, rfl⟩⟩ := h2
  obtain ⟨R, hR, hR1, hy, hz⟩ := cls_two w #[.slice sa r.store.length sc, .slice ra r.refs.length rc, .int .i64 r.gen, .int .i64 r.phase, .slice oa2 on2 oc2, .slice ua2 un2 uc2, .bool r.pend.force] #[.slice oa p.objects.length oc, .slice ua p.updates.length uc, .bool p.force] 28 26
  have y0 := hy 0 _ rfl
  have y1 := hy 1 _ rfl
  have y2 := hy 2 _ rfl
  have y3 := hy 3 _ rfl
  have y4 := hy 4 _ rfl
  have y5 := hy 5 _ rfl
  have y6 := hy 6 _ rfl
  have z0 := hz 0 _ rfl
  have z1 := hz 1 _ rfl
  have z2 := hz 2 _ rfl
  have hRb := hR.below
  have hRn := hR.next
  clear hy hz hs hr ho hu ht
  by_cases he : ofE r p = 0
  case neg =>
    have hv : ofS r p = ByteArray.empty := by unfold ofS; rw [if_neg he]
    rw [hv] at HO
    have q1 : (ofE r p != 0) = true := by simpa using he
    have q2 : (ByteArray.empty.toList == []) = true := by decide +kernel
    have q3 : ByteArray.empty.toList.isEmpty = true := by decide +kernel
    clear he hv HOq HTr
    generalize ofE r p = E at *
    have ay0 := y0 _ hR1
    have ay1 := y1 _ hR1
    have ay2 := y2 _ hR1
    have ay3 := y3 _ hR1
    have ay4 := y4 _ hR1
    have ay5 := y5 _ hR1
    have ay6 := y6 _ hR1
    have az0 := z0 _ hR1
    have az1 := z1 _ hR1
    have az2 := z2 _ hR1
    go_enter Tryz.func16, Tryz.ntmps16
    go_wp2_with fail
    refine (HO.out _ (hRb _ hR1)).mono ?_
    rintro e w2 ⟨rfl, hb2⟩
    have hR2 := hRn _ _ hR1 hb2
    clear hb2 ay0 ay1 ay2 ay3 ay4 ay5 ay6 az0 az1 az2 hR1
    go_wp2_with fail
    refine (HB.out _ (hRb _ hR2)).mono ?_
    rintro e w3 ⟨rfl, hb3⟩
    have hR3 := hRn _ _ hR2 hb3
    clear hb3 hR2 HB
    go_wp2_with fail
    refine (pushBegun_any _).mono ?_
    rintro e w4 ⟨rfl, hb4⟩
    have hR4 := hRn _ _ hR3 hb4
    clear hb4 hR3
    have HE := Lib.hid (hRb _ hR4)
    go_wp2_with fail
    go_ret
    exact ⟨rfl, HE.out⟩
  have hv : ofS r p = voteR r p := by unfold ofS; rw [if_pos he]
  have hck := ofE_check he
  have Hck := Lib.hid hck
  have Hp := Lib.hid (fun (us : List Mv) (h : us.Perm p.updates) => And.intro (ofE_perm (r := r) h he) (show ofS r ⟨p.objects, us, p.force⟩ = voteR r ⟨p.objects, us, p.force⟩ by unfold ofS; rw [if_pos (ofE_perm h he)]))
  have Hpv := Lib.hid (fun (us : List Mv) (h : us.Perm p.updates) ht => vote_perm (r := r) h he ht)
  have Hlen := Lib.hid ((checkPsh_zero hck).2.2)
  have Hl0 := Lib.hid ((checkMvs_zero Hlen.out).1)
  have Hl4 := Lib.hid ((checkMvs_zero Hlen.out).2.1)
  rw [he, hv] at HO
  rw [if_pos hck, if_pos hck, if_pos hck] at HTr
  clear hv he hck
  have Hvn := Lib.hid (fun (h : tryE r p ≠ 0) => vote_no (r := r) h)
  have Hvy := Lib.hid (fun (h : tryE r p = 0) => vote_yes (r := r) h)
  obtain ⟨V, hV⟩ : ∃ V, V = voteR r p := ⟨_, rfl⟩
  rw [← hV] at HO Hpv Hvn Hvy
  have HV := Lib.hid hV
  clear hV
  by_cases ht : tryE r p = 0
  case neg =>
    have hvz := Hvn.out ht
    have q1 : (tryE r p == 0) = false := by simpa using ht
    have q2 : (tryE r p != 0) = true := by simpa using ht
    have q3 : decide ((4 : Int) < (V.size : Int)) = false := by rw [hvz]; decide
    clear hvz Hvn Hvy
    have ay0 := y0 _ hR1
    have ay1 := y1 _ hR1
    have ay2 := y2 _ hR1
    have ay3 := y3 _ hR1
    have ay4 := y4 _ hR1
    have ay5 := y5 _ hR1
    have ay6 := y6 _ hR1
    have az0 := z0 _ hR1
    have az1 := z1 _ hR1
    have az2 := z2 _ hR1
    go_enter Tryz.func16, Tryz.ntmps16
    go_wp2_with fail
    refine (HO.out _ (hRb _ hR1)).mono ?_
    rintro e w2 ⟨rfl, hb2⟩
    have hR2 := hRn _ _ hR1 hb2
    clear hb2 ay0 ay1 ay2 ay3 ay4 ay5 ay6 az0 az1 az2 hR1
    go_wp2_with fail
    refine (HB.out _ (hRb _ hR2)).mono ?_
    rintro e w3 ⟨rfl, hb3⟩
    have hR3 := hRn _ _ hR2 hb3
    clear hb3 hR2 HB
    go_wp2_with fail
    refine (pushBegun_any _).mono ?_
    rintro e w4 ⟨rfl, hb4⟩
    have hR4 := hRn _ _ hR3 hb4
    clear hb4 hR3
    have by0 := y0 _ hR4
    have by1 := y1 _ hR4
    have by2 := y2 _ hR4
    have by3 := y3 _ hR4
    have by4 := y4 _ hR4
    have by5 := y5 _ hR4
    have by6 := y6 _ hR4
    have bz0 := z0 _ hR4
    have bz1 := z1 _ hR4
    have bz2 := z2 _ hR4
    go_wp2_with fail
    refine (HTr.out _ (hRb _ hR4)).mono ?_
    rintro e w5 ⟨v5, u5, rfl, hv5, hu5, hb5⟩
    obtain ⟨a5, c5, rfl⟩ := hv5.vshape
    obtain ⟨⟨p5, d5⟩, rfl⟩ := hu5.shape
    have hR5 := hRn _ _ hR4 hb5
    clear hv5 hu5 hb5 HTr hR4 by0 by1 by2 by3 by4 by5 by6 bz0 bz1 bz2
    generalize hec : tryE r p = ec at *
    have Hec := Lib.hid hec
    clear hec
    go_wp2_with fail
    obtain ⟨Q, hQ, hQ1, hQu0⟩ := cls_fresh w5
    have hQb := hQ.below
    have hQn := hQ.next
    have HQu := Lib.hid hQu0
    clear hQu0
    have d0 := fun x (hx : In Q x) => below_cell (hQb _ hx) (z0 _ hR5)
    have d1 := fun x (hx : In Q x) => below_cell (hQb _ hx) (z1 _ hR5)
    have d2 := fun x (hx : In Q x) => below_cell (hQb _ hx) (z2 _ hR5)
    have HBu := Lib.hid (fun x (hx : In Q x) => HU0.out.below (hRb _ (hRn _ _ hR5 (hQb _ hx))))
    go_cut [12] (fun s12 wx => ∃ D, s12 = .pointer (some ⟨D, 0, none⟩) ∧ ∃ y, y = wx ∧ Hid (In Q y ∧ w5.heap.size ≤ D ∧ ∃ g c, y.heap[D]? = some (.cells #[.slice oa p.objects.length oc, .slice (some ⟨g, 0, none⟩) p.updates.length c, .bool p.force] 26 (0, 0)) ∧ OwnU w5.heap.size y (.slice (some ⟨g, 0, none⟩) p.updates.length c) p.updates))
    case first =>
      refine wp_region_held (S := In Q) (by kernel_rfl) ?_
      change wpAnyH _ _ _ _ _ _ _ _ (World.drew _)
      have hC0 := hQ.drew _ hQ1
      generalize w5.drew = x0 at hC0 ⊢
      refine wpAnyH_take (i := 0) (v := .pointer (some ⟨w.heap.size + 1, 0, none⟩)) rfl (by kernel_rfl) (by kernel_rfl) (by kernel_rfl) (fun _ _ _ h => h) (Or.inl ⟨by rfl, fun w hSw => ?_⟩) hC0 ?_
      · go_simp
      simp only [Act.put, List.getElem_toArray, List.getElem_cons_zero, List.getElem_cons_succ, List.setIfInBounds_toArray, List.set_cons_zero, List.set_cons_succ]
      refine wpAnyH_take (i := 1) (v := .slice oa p.objects.length oc) rfl (by kernel_rfl) (by kernel_rfl) (by kernel_rfl) (fun _ _ _ h => h) (Or.inl ⟨by rfl, fun w hSw => ?_⟩) hC0 ?_
      · have yy := d0 _ hSw; go_simp
      simp only [Act.put, List.getElem_toArray, List.getElem_cons_zero, List.getElem_cons_succ, List.setIfInBounds_toArray, List.set_cons_zero, List.set_cons_succ]
      refine wpAnyH_take (i := 3) (v := .pointer (some ⟨w.heap.size + 1, 1, none⟩)) rfl (by kernel_rfl) (by kernel_rfl) (by kernel_rfl) (fun _ _ _ h => h) (Or.inl ⟨by rfl, fun w hSw => ?_⟩) hC0 ?_
      · go_simp
      simp only [Act.put, List.getElem_toArray, List.getElem_cons_zero, List.getElem_cons_succ, List.setIfInBounds_toArray, List.set_cons_zero, List.set_cons_succ]
      refine wpAnyH_take (i := 4) (v := .slice ua p.updates.length uc) rfl (by kernel_rfl) (by kernel_rfl) (by kernel_rfl) (fun _ _ _ h => h) (Or.inl ⟨by rfl, fun w hSw => ?_⟩) hC0 ?_
      · have yy := d1 _ hSw; go_simp
      simp only [Act.put, List.getElem_toArray, List.getElem_cons_zero, List.getElem_cons_succ, List.setIfInBounds_toArray, List.set_cons_zero, List.set_cons_succ]
      refine wpAnyH_take (i := 6) (v := .pointer (some ⟨w.heap.size + 1, 2, none⟩)) rfl (by kernel_rfl) (by kernel_rfl) (by kernel_rfl) (fun _ _ _ h => h) (Or.inl ⟨by rfl, fun w hSw => ?_⟩) hC0 ?_
      · go_simp
      simp only [Act.put, List.getElem_toArray, List.getElem_cons_zero, List.getElem_cons_succ, List.setIfInBounds_toArray, List.set_cons_zero, List.set_cons_succ]
      refine wpAnyH_take (i := 7) (v := .bool p.force) rfl (by kernel_rfl) (by kernel_rfl) (by kernel_rfl) (fun _ _ _ h => h) (Or.inl ⟨by rfl, fun w hSw => ?_⟩) hC0 ?_
      · have yy := d2 _ hSw; go_simp
      simp only [Act.put, List.getElem_toArray, List.getElem_cons_zero, List.getElem_cons_succ, List.setIfInBounds_toArray, List.set_cons_zero, List.set_cons_succ]
      refine wpAnyH_all (rs := [2, 9]) (by kernel_rfl) (by simp) (fun j hj => ?_)
      rcases List.mem_cons.1 hj with rfl | hj
      · skip
        refine Or.inl ?_
        have hC1 := hQ.alloc _ (.cells #[] 93) hC0
        have hq0 := (hQb _ hC0).size
        have HOw := Lib.hid ((ownU_empty x0).base hq0)
        have hbA : Below x0.heap.size x0 (x0.alloc (.cells #[] 93)) := (Below.refl _ _).alloc (Nat.le_refl _) _
        clear hbA
        go_simp
        generalize x0.heap.size = E at *
        generalize x0.alloc (.cells #[] 93) = x1 at *
        refine wpAnyH_all (rs := [5, 9]) (by kernel_rfl) (by simp) (fun j hj => ?_)
        rcases List.mem_cons.1 hj with rfl | hj
        · skip
          refine Or.inl ?_
          have hq1 := (hQb _ hC1).size
          obtain ⟨v4, x2, hr4, hO4, hu4⟩ := appendMvs_row (l := []) 24 HOw.out (HBu.out _ hC1) (by have := Hby.out; simp; omega) hq1
          have hC2 := HQu.out _ _ _ hC1 hu4 (fun b hb => (HOw.out.block hb).1)
          rw [List.nil_append] at hO4
          obtain ⟨a4, c, rfl⟩ := hO4.shape
          obtain ⟨g, rfl⟩ : ∃ g, a4 = some ⟨g, 0, none⟩ := by
            rcases hO4.1.2 with ⟨e, h0⟩ | ⟨g, cp, cur, e, _⟩
            · exfalso; have := Hl0.out; omega
            · cases e; exact ⟨g, rfl⟩
          have HO5 := Lib.hid hO4
          clear hO4 hu4
          refine wp_append_run (.tmp 52) (.tmp 54) 24 (by rfl) _ _ _ (by rfl) (by rfl) hr4 ?_
          simp only [Act.put, List.getElem_toArray, List.getElem_cons_zero, List.getElem_cons_succ, List.setIfInBounds_toArray, List.set_cons_zero, List.set_cons_succ]
          refine ⟨hC2, ?_⟩
          clear hr4 HOw
          refine wpAnyH_take (i := 8) (v := .agg #[.slice oa p.objects.length oc, .slice (some ⟨g, 0, none⟩) p.updates.length c, .bool p.force]) rfl (by kernel_rfl) (by kernel_rfl) (by kernel_rfl) (fun _ _ _ h => h) (Or.inl ⟨by rfl, fun w hSw => ?_⟩) hC2 ?_
          · go_simp
          simp only [Act.put, List.getElem_toArray, List.getElem_cons_zero, List.getElem_cons_succ, List.setIfInBounds_toArray, List.set_cons_zero, List.set_cons_succ]
          refine wpAnyH_all (rs := [9]) (by kernel_rfl) (by simp) (fun j hj => ?_)
          obtain rfl : j = 9 := by simpa using hj
          refine Or.inl ?_
          have hC3 := hQ.alloc _ (.cells #[.slice none 0 0, .slice none 0 0, .bool false] 26) hC2
          have HDb := Lib.hid (heap_alloc_new x2 (.cells #[.slice none 0 0, .slice none 0 0, .bool false] 26))
          have HDge := Lib.hid (hQb _ hC2).size
          have hbA : Below x2.heap.size x2 (x2.alloc (.cells #[.slice none 0 0, .slice none 0 0, .bool false] 26)) := (Below.refl _ _).alloc (Nat.le_refl _) _
          replace HO5 := Lib.hid (HO5.out.below hbA)
          clear hbA
          go_simp
          generalize x2.heap.size = D at *
          generalize x2.alloc (.cells #[.slice none 0 0, .slice none 0 0, .bool false] 26) = x3 at *
          refine wpAnyH_all (rs := [10]) (by kernel_rfl) (by simp) (fun j hj => ?_)
          obtain rfl : j = 10 := by simpa using hj
          refine Or.inl ?_
          have hblk := HDb.out
          have g0 := block_cell (j := 0) hblk rfl
          have g1 := block_cell (j := 1) hblk rfl
          have g2 := block_cell (j := 2) hblk rfl
          have f0 := block_free (j := 0) hblk
          have f1 := block_free (j := 1) hblk
          have f2 := block_free (j := 2) hblk
          have Hb3 := Lib.hid (set3_is (v0 := .slice oa p.objects.length oc) (v1 := .slice (some ⟨g, 0, none⟩) p.updates.length c) (v2 := .bool p.force) hblk)
          have Hu3 := Lib.hid (set3_upd D (.slice oa p.objects.length oc) (.slice (some ⟨g, 0, none⟩) p.updates.length c) (.bool p.force) x3)
          have hC9 := HQu.out _ _ _ hC3 Hu3.out (fun b hb => by have := HDge.out; omega)
          have HO9 := Lib.hid (HO5.out.upd Hu3.out (fun g2 hg e => own_other HO5.out hblk (by rw [hg, e])))
          clear hblk
          go_wp2_with fail
          first | refine ⟨hC9, ?_⟩ | skip
          first | refine wpAnyH_done (by kernel_rfl) ?_ _ | refine ⟨by kernel_rfl, ?_⟩
          first | change Exit.then _ _ _ _ (set3 D (.slice oa p.objects.length oc) (.slice (some ⟨g, 0, none⟩) p.updates.length c) (.bool p.force) x3) | skip
          have HEnd := Lib.hid (show In Q (set3 D (.slice oa p.objects.length oc) (.slice (some ⟨g, 0, none⟩) p.updates.length c) (.bool p.force) x3) ∧ w5.heap.size ≤ D ∧ ∃ g1 c1, (set3 D (.slice oa p.objects.length oc) (.slice (some ⟨g, 0, none⟩) p.updates.length c) (.bool p.force) x3).heap[D]? = some (.cells #[.slice oa p.objects.length oc, .slice (some ⟨g1, 0, none⟩) p.updates.length c1, .bool p.force] 26 (0, 0)) ∧ OwnU w5.heap.size (set3 D (.slice oa p.objects.length oc) (.slice (some ⟨g, 0, none⟩) p.updates.length c) (.bool p.force) x3) (.slice (some ⟨g1, 0, none⟩) p.updates.length c1) p.updates from ⟨hC9, HDge.out, g, c, Hb3.out, HO9.out⟩)
          go_wp2_with fail
          go_meet
          exact ⟨D, rfl, _, rfl, HEnd⟩
        · skip
          obtain rfl : j = 9 := by simpa using hj
          refine Or.inl ?_
          have hC2 := hQ.alloc _ (.cells #[.slice none 0 0, .slice none 0 0, .bool false] 26) hC1
          have HDb := Lib.hid (heap_alloc_new x1 (.cells #[.slice none 0 0, .slice none 0 0, .bool false] 26))
          have HDge := Lib.hid (hQb _ hC1).size
          have hbA : Below x1.heap.size x1 (x1.alloc (.cells #[.slice none 0 0, .slice none 0 0, .bool false] 26)) := (Below.refl _ _).alloc (Nat.le_refl _) _
          replace HOw := Lib.hid (HOw.out.below hbA)
          clear hbA
          go_simp
          generalize x1.heap.size = D at *
          generalize x1.alloc (.cells #[.slice none 0 0, .slice none 0 0, .bool false] 26) = x2 at *
          refine wpAnyH_all (rs := [5]) (by kernel_rfl) (by simp) (fun j hj => ?_)
          obtain rfl : j = 5 := by simpa using hj
          refine Or.inl ?_
          have hq2 := (hQb _ hC2).size
          obtain ⟨v4, x3, hr4, hO4, hu4⟩ := appendMvs_row (l := []) 24 HOw.out (HBu.out _ hC2) (by have := Hby.out; simp; omega) hq2
          have hC3 := HQu.out _ _ _ hC2 hu4 (fun b hb => (HOw.out.block hb).1)
          rw [List.nil_append] at hO4
          obtain ⟨a4, c, rfl⟩ := hO4.shape
          obtain ⟨g, rfl⟩ : ∃ g, a4 = some ⟨g, 0, none⟩ := by
            rcases hO4.1.2 with ⟨e, h0⟩ | ⟨g, cp, cur, e, _⟩
            · exfalso; have := Hl0.out; omega
            · cases e; exact ⟨g, rfl⟩
          replace HDb := Lib.hid (hu4.blk HDb.out (fun e => own_other HOw.out HDb.out e))
          have HO5 := Lib.hid hO4
          clear hO4 hu4
          refine wp_append_run (.tmp 52) (.tmp 54) 24 (by rfl) _ _ _ (by rfl) (by rfl) hr4 ?_
          simp only [Act.put, List.getElem_toArray, List.getElem_cons_zero, List.getElem_cons_succ, List.setIfInBounds_toArray, List.set_cons_zero, List.set_cons_succ]
          refine ⟨hC3, ?_⟩
          clear hr4 HOw
          refine wpAnyH_take (i := 8) (v := .agg #[.slice oa p.objects.length oc, .slice (some ⟨g, 0, none⟩) p.updates.length c, .bool p.force]) rfl (by kernel_rfl) (by kernel_rfl) (by kernel_rfl) (fun _ _ _ h => h) (Or.inl ⟨by rfl, fun w hSw => ?_⟩) hC3 ?_
          · go_simp
          simp only [Act.put, List.getElem_toArray, List.getElem_cons_zero, List.getElem_cons_succ, List.setIfInBounds_toArray, List.set_cons_zero, List.set_cons_succ]
          refine wpAnyH_all (rs := [10]) (by kernel_rfl) (by simp) (fun j hj => ?_)
          obtain rfl : j = 10 := by simpa using hj
          refine Or.inl ?_
          have hblk := HDb.out
          have g0 := block_cell (j := 0) hblk rfl
          have g1 := block_cell (j := 1) hblk rfl
          have g2 := block_cell (j := 2) hblk rfl
          have f0 := block_free (j := 0) hblk
          have f1 := block_free (j := 1) hblk
          have f2 := block_free (j := 2) hblk
          have Hb3 := Lib.hid (set3_is (v0 := .slice oa p.objects.length oc) (v1 := .slice (some ⟨g, 0, none⟩) p.updates.length c) (v2 := .bool p.force) hblk)
          have Hu3 := Lib.hid (set3_upd D (.slice oa p.objects.length oc) (.slice (some ⟨g, 0, none⟩) p.updates.length c) (.bool p.force) x3)
          have hC9 := HQu.out _ _ _ hC3 Hu3.out (fun b hb => by have := HDge.out; omega)
          have HO9 := Lib.hid (HO5.out.upd Hu3.out (fun g2 hg e => own_other HO5.out hblk (by rw [hg, e])))
          clear hblk
          go_wp2_with fail
          first | refine ⟨hC9, ?_⟩ | skip
          first | refine wpAnyH_done (by kernel_rfl) ?_ _ | refine ⟨by kernel_rfl, ?_⟩
          first | change Exit.then _ _ _ _ (set3 D (.slice oa p.objects.length oc) (.slice (some ⟨g, 0, none⟩) p.updates.length c) (.bool p.force) x3) | skip
          have HEnd := Lib.hid (show In Q (set3 D (.slice oa p.objects.length oc) (.slice (some ⟨g, 0, none⟩) p.updates.length c) (.bool p.force) x3) ∧ w5.heap.size ≤ D ∧ ∃ g1 c1, (set3 D (.slice oa p.objects.length oc) (.slice (some ⟨g, 0, none⟩) p.updates.length c) (.bool p.force) x3).heap[D]? = some (.cells #[.slice oa p.objects.length oc, .slice (some ⟨g1, 0, none⟩) p.updates.length c1, .bool p.force] 26 (0, 0)) ∧ OwnU w5.heap.size (set3 D (.slice oa p.objects.length oc) (.slice (some ⟨g, 0, none⟩) p.updates.length c) (.bool p.force) x3) (.slice (some ⟨g1, 0, none⟩) p.updates.length c1) p.updates from ⟨hC9, HDge.out, g, c, Hb3.out, HO9.out⟩)
          go_wp2_with fail
          go_meet
          exact ⟨D, rfl, _, rfl, HEnd⟩
      · skip
        obtain rfl : j = 9 := by simpa using hj
        refine Or.inl ?_
        have hC1 := hQ.alloc _ (.cells #[.slice none 0 0, .slice none 0 0, .bool false] 26) hC0
        have HDb := Lib.hid (heap_alloc_new x0 (.cells #[.slice none 0 0, .slice none 0 0, .bool false] 26))
        have HDge := Lib.hid (hQb _ hC0).size
        have hbA : Below x0.heap.size x0 (x0.alloc (.cells #[.slice none 0 0, .slice none 0 0, .bool false] 26)) := (Below.refl _ _).alloc (Nat.le_refl _) _
        clear hbA
        go_simp
        generalize x0.heap.size = D at *
        generalize x0.alloc (.cells #[.slice none 0 0, .slice none 0 0, .bool false] 26) = x1 at *
        refine wpAnyH_all (rs := [2]) (by kernel_rfl) (by simp) (fun j hj => ?_)
        obtain rfl : j = 2 := by simpa using hj
        refine Or.inl ?_
        have hC2 := hQ.alloc _ (.cells #[] 93) hC1
        have hq1 := (hQb _ hC1).size
        have HOw := Lib.hid ((ownU_empty x1).base hq1)
        have hbA : Below x1.heap.size x1 (x1.alloc (.cells #[] 93)) := (Below.refl _ _).alloc (Nat.le_refl _) _
        replace HDb := Lib.hid (blkB HDb.out hbA)
        clear hbA
        go_simp
        generalize x1.heap.size = E at *
        generalize x1.alloc (.cells #[] 93) = x2 at *
        refine wpAnyH_all (rs := [5]) (by kernel_rfl) (by simp) (fun j hj => ?_)
        obtain rfl : j = 5 := by simpa using hj
        refine Or.inl ?_
        have hq2 := (hQb _ hC2).size
        obtain ⟨v4, x3, hr4, hO4, hu4⟩ := appendMvs_row (l := []) 24 HOw.out (HBu.out _ hC2) (by have := Hby.out; simp; omega) hq2
        have hC3 := HQu.out _ _ _ hC2 hu4 (fun b hb => (HOw.out.block hb).1)
        rw [List.nil_append] at hO4
        obtain ⟨a4, c, rfl⟩ := hO4.shape
        obtain ⟨g, rfl⟩ : ∃ g, a4 = some ⟨g, 0, none⟩ := by
          rcases hO4.1.2 with ⟨e, h0⟩ | ⟨g, cp, cur, e, _⟩
          · exfalso; have := Hl0.out; omega
          · cases e; exact ⟨g, rfl⟩
        replace HDb := Lib.hid (hu4.blk HDb.out (fun e => own_other HOw.out HDb.out e))
        have HO5 := Lib.hid hO4
        clear hO4 hu4
        refine wp_append_run (.tmp 52) (.tmp 54) 24 (by rfl) _ _ _ (by rfl) (by rfl) hr4 ?_
        simp only [Act.put, List.getElem_toArray, List.getElem_cons_zero, List.getElem_cons_succ, List.setIfInBounds_toArray, List.set_cons_zero, List.set_cons_succ]
        refine ⟨hC3, ?_⟩
        clear hr4 HOw
        refine wpAnyH_take (i := 8) (v := .agg #[.slice oa p.objects.length oc, .slice (some ⟨g, 0, none⟩) p.updates.length c, .bool p.force]) rfl (by kernel_rfl) (by kernel_rfl) (by kernel_rfl) (fun _ _ _ h => h) (Or.inl ⟨by rfl, fun w hSw => ?_⟩) hC3 ?_
        · go_simp
        simp only [Act.put, List.getElem_toArray, List.getElem_cons_zero, List.getElem_cons_succ, List.setIfInBounds_toArray, List.set_cons_zero, List.set_cons_succ]
        refine wpAnyH_all (rs := [10]) (by kernel_rfl) (by simp) (fun j hj => ?_)
        obtain rfl : j = 10 := by simpa using hj
        refine Or.inl ?_
        have hblk := HDb.out
        have g0 := block_cell (j := 0) hblk rfl
        have g1 := block_cell (j := 1) hblk rfl
        have g2 := block_cell (j := 2) hblk rfl
        have f0 := block_free (j := 0) hblk
        have f1 := block_free (j := 1) hblk
        have f2 := block_free (j := 2) hblk
        have Hb3 := Lib.hid (set3_is (v0 := .slice oa p.objects.length oc) (v1 := .slice (some ⟨g, 0, none⟩) p.updates.length c) (v2 := .bool p.force) hblk)
        have Hu3 := Lib.hid (set3_upd D (.slice oa p.objects.length oc) (.slice (some ⟨g, 0, none⟩) p.updates.length c) (.bool p.force) x3)
        have hC9 := HQu.out _ _ _ hC3 Hu3.out (fun b hb => by have := HDge.out; omega)
        have HO9 := Lib.hid (HO5.out.upd Hu3.out (fun g2 hg e => own_other HO5.out hblk (by rw [hg, e])))
        clear hblk
        go_wp2_with fail
        first | refine ⟨hC9, ?_⟩ | skip
        first | refine wpAnyH_done (by kernel_rfl) ?_ _ | refine ⟨by kernel_rfl, ?_⟩
        first | change Exit.then _ _ _ _ (set3 D (.slice oa p.objects.length oc) (.slice (some ⟨g, 0, none⟩) p.updates.length c) (.bool p.force) x3) | skip
        have HEnd := Lib.hid (show In Q (set3 D (.slice oa p.objects.length oc) (.slice (some ⟨g, 0, none⟩) p.updates.length c) (.bool p.force) x3) ∧ w5.heap.size ≤ D ∧ ∃ g1 c1, (set3 D (.slice oa p.objects.length oc) (.slice (some ⟨g, 0, none⟩) p.updates.length c) (.bool p.force) x3).heap[D]? = some (.cells #[.slice oa p.objects.length oc, .slice (some ⟨g1, 0, none⟩) p.updates.length c1, .bool p.force] 26 (0, 0)) ∧ OwnU w5.heap.size (set3 D (.slice oa p.objects.length oc) (.slice (some ⟨g, 0, none⟩) p.updates.length c) (.bool p.force) x3) (.slice (some ⟨g1, 0, none⟩) p.updates.length c1) p.updates from ⟨hC9, HDge.out, g, c, Hb3.out, HO9.out⟩)
        go_wp2_with fail
        go_meet
        exact ⟨D, rfl, _, rfl, HEnd⟩
    case rest =>
      obtain ⟨D, rfl, yq, rfl, HK⟩ := hcut
      obtain ⟨hQ5, hD5, g, c, hb5, hO5⟩ := HK.out
      have hR6 := hRn _ _ hR5 (hQb _ hQ5)
      have Hb5 := Lib.hid hb5
      have HO6 := Lib.hid hO5
      have HD5 := Lib.hid hD5
      clear HK hb5 hO5
      have s0 := block_cell (j := 0) Hb5.out rfl
      have s1 := block_cell (j := 1) Hb5.out rfl
      have s2 := block_cell (j := 2) Hb5.out rfl
      cases turned
      case false =>
        have HO7 := HO6
        have hR7 := hR6
        have HMv := Lib.hid (HO7.out.mvs (by have := Hby.out; omega))
        have HOf := Lib.hid (HOq.out p.updates _ _ _ (hRb _ hR7) HMv.out)
        have hpm := Hp.out p.updates (List.Perm.refl _)
        rw [hpm.1, hpm.2] at HOf
        generalize voteR r ⟨p.objects, p.updates, p.force⟩ = V2 at HOf
        have ey0 := y0 _ hR7
        have ey1 := y1 _ hR7
        have ey2 := y2 _ hR7
        have ey3 := y3 _ hR7
        have ey4 := y4 _ hR7
        have ey5 := y5 _ hR7
        have ey6 := y6 _ hR7
        have ez0 := z0 _ hR7
        have ez1 := z1 _ hR7
        have ez2 := z2 _ hR7
        go_wp2_with fail
        refine HOf.out.mono ?_
        rintro e w8 ⟨rfl, hb8⟩
        have HE := Lib.hid (hRb _ (hRn _ _ hR7 hb8))
        clear hb8 HOf
        go_wp2_with fail
        go_ret
        exact ⟨rfl, HE.out⟩
      case true =>
        go_upto_if 66 with (fail)
        go_cut [12] from 62 to 101 (fun s12 wx => s12 = .pointer (some ⟨D, 0, none⟩) ∧ ∃ y, y = wx ∧ Hid (In Q y ∧ ∃ us : List Mv, us.Perm p.updates ∧ y.heap[D]? = some (.cells #[.slice oa p.objects.length oc, .slice (some ⟨g, 0, none⟩) p.updates.length c, .bool p.force] 26 (0, 0)) ∧ OwnU w5.heap.size y (.slice (some ⟨g, 0, none⟩) p.updates.length c) us))
        case first =>
          by_cases hn : 1 < p.updates.length
          case neg =>
            have q7 : decide ((1 : Int) < (p.updates.length : Int)) = false := by simp; omega
            clear hn
            have HEnd := Lib.hid (show In Q yq ∧ ∃ us : List Mv, us.Perm p.updates ∧ yq.heap[D]? = some (.cells #[.slice oa p.objects.length oc, .slice (some ⟨g, 0, none⟩) p.updates.length c, .bool p.force] 26 (0, 0)) ∧ OwnU w5.heap.size yq (.slice (some ⟨g, 0, none⟩) p.updates.length c) us from ⟨hQ5, _, List.Perm.refl _, Hb5.out, HO6.out⟩)
            simp only [q7]
            go_wp2_with fail
            go_meet
            exact ⟨rfl, _, rfl, HEnd⟩
          case pos =>
            have q7 : decide ((1 : Int) < (p.updates.length : Int)) = true := by simp; omega
            simp only [q7]
            go_wp2_with fail
            clear s0 s1 s2
            have hbd : Below yq.heap.size yq yq.drew := (Below.refl _ _).drew
            have hB0 := blkB Hb5.out hbd
            obtain ⟨C2, hC0, hCp, hCi⟩ := as_class (fun z : World => z.heap[D]? = some (.cells #[.slice oa p.objects.length oc, .slice (some ⟨g, 0, none⟩) p.updates.length c, .bool p.force] 26 (0, 0))) (x := yq.drew) hB0
            refine wp_region_held (S := In C2) (by kernel_rfl) ?_
            change wpAnyH _ _ _ _ _ _ _ _ (World.drew _)
            have hbd2 := hbd
            have HOx := Lib.hid (HO6.out.below hbd)
            have hQ6 := hQ.drew _ hQ5
            clear hbd hbd2 Hb5 HO6 hQ5 hR6
            generalize yq.drew = x0 at *
            obtain ⟨m, hm⟩ : ∃ m, p.updates.length = m + 1 := ⟨p.updates.length - 1, by omega⟩
            have hm1 : ((p.updates.length : Nat) : Int) - 1 = (m : Int) := by omega
            have hwm := wrap_in (n := ((p.updates.length : Nat) : Int) - 1) (by have := Hl4.out; omega)
            rw [hm1] at hwm
            have hmlt : m < p.updates.length := by omega
            have hm2 : (m : Int) < (p.updates.length : Int) := by omega
            have hm3 : (0 : Int) ≤ (m : Int) := by omega
            have h0lt : (0 : Int) < (p.updates.length : Int) := by omega
            have hm0 : 0 < m := by omega
            have op : ∀ (y : World) (l : List Mv) (hO : OwnU w5.heap.size y (.slice (some ⟨g, 0, none⟩) p.updates.length c) l) (hl : l.length = p.updates.length) (i : Nat), i < p.updates.length → y.cell? ⟨g, i * 3, none⟩ = some (.string (mv l i).name) ∧ y.cell? ⟨g, i * 3 + 1, none⟩ = some (.int .i64 (mv l i).old) ∧ y.cell? ⟨g, i * 3 + 2, none⟩ = some (.int .i64 (mv l i).new) := by
              intro y l hO hl i hi
              obtain ⟨a, n, cc, hN, e, _, _, _, hop⟩ := (hO.mvs (by rw [hl]; have := Hby.out; omega)).open
              cases e
              obtain ⟨b, off, e, _, k0, k1, k2⟩ := hop (by omega)
              cases e
              have h0 := k0 i _ hi (Below.refl _ _)
              have h1 := k1 i _ hi (Below.refl _ _)
              have h2 := k2 i _ hi (Below.refl _ _)
              simp only [Nat.zero_add] at h0 h1 h2
              exact ⟨h0, h1, h2⟩
            have mk1 := HOx.out.2 _ (mv_mem hmlt)
            have mk0 := HOx.out.2 _ (mv_mem (show 0 < p.updates.length by omega))
            have hset1 := HOx.out.set (i := 0) (by omega) mk1
            have hset2 := hset1.1.set (i := m) (by rw [List.length_set]; exact hmlt) mk0
            have hsw : (p.updates.set 0 (mv p.updates m)).set m (mv p.updates 0) = swapM p.updates := by unfold swapM; rw [show p.updates.length - 1 = m by omega]
            rw [hsw] at hset2
            rw [show mvCells (mv p.updates m) = [.string (mv p.updates m).name, .int .i64 (mv p.updates m).old, .int .i64 (mv p.updates m).new] from rfl, setCells3] at hset1 hset2
            rw [show mvCells (mv p.updates 0) = [.string (mv p.updates 0).name, .int .i64 (mv p.updates 0).old, .int .i64 (mv p.updates 0).new] from rfl, setCells3] at hset2
            simp only [Nat.zero_mul, Nat.zero_add] at hset1 hset2
            have f1 := HOx.out.free
            have f2 := hset1.1.free
            obtain ⟨a00, a01, a02⟩ := op _ _ HOx.out rfl 0 (by omega)
            obtain ⟨b00, b01, b02⟩ := op _ _ HOx.out rfl m hmlt
            obtain ⟨e00, e01, e02⟩ := op _ _ hset1.1 (List.length_set) m hmlt
            simp only [Nat.zero_mul, Nat.zero_add] at a00 a01 a02
            have hDg : D ≠ g := fun e => own_other HOx.out hB0 (by rw [e]; rfl)
            have hB1 := hset1.2.blk hB0 hDg
            have hB2 := hset2.2.blk hB1 hDg
            have hC1 := hCi _ hB1
            have hC2 := hCi _ hB2
            have HB2x := Lib.hid hB2
            clear hB0 hB1 hB2 hCi
            have hQ7 := HQu.out _ _ _ hQ6 hset1.2 (fun b hb => by subst hb; exact (HOx.out.block rfl).1)
            have hQ8 := HQu.out _ _ _ hQ7 hset2.2 (fun b hb => by subst hb; exact (HOx.out.block rfl).1)
            have HO7 := Lib.hid hset2.1
            have hR7 := hRn _ _ hR5 (hQb _ hQ8)
            generalize hum : mv p.updates m = um at *
            generalize hu0 : mv p.updates 0 = u0 at *
            have Hm := Lib.hid hm
            clear hset1 hset2 hsw op HOx mk0 mk1 hQ7 hQ6 hum hu0 hm
            refine wpAnyH_take (i := 0) (v := .pointer (some ⟨D, 1, none⟩)) rfl (by kernel_rfl) (by kernel_rfl) (by kernel_rfl) (fun _ _ _ h => h) (Or.inl ⟨by rfl, fun w hSw => ?_⟩) hC0 ?_
            · go_simp
            simp only [Act.put, List.getElem_toArray, List.getElem_cons_zero, List.getElem_cons_succ, List.setIfInBounds_toArray, List.set_cons_zero, List.set_cons_succ]
            refine wpAnyH_take (i := 2) (v := .pointer (some ⟨D, 1, none⟩)) rfl (by kernel_rfl) (by kernel_rfl) (by kernel_rfl) (fun _ _ _ h => h) (Or.inl ⟨by rfl, fun w hSw => ?_⟩) hC0 ?_
            · go_simp
            simp only [Act.put, List.getElem_toArray, List.getElem_cons_zero, List.getElem_cons_succ, List.setIfInBounds_toArray, List.set_cons_zero, List.set_cons_succ]
            refine wpAnyH_take (i := 6) (v := .pointer (some ⟨D, 1, none⟩)) rfl (by kernel_rfl) (by kernel_rfl) (by kernel_rfl) (fun _ _ _ h => h) (Or.inl ⟨by rfl, fun w hSw => ?_⟩) hC0 ?_
            · go_simp
            simp only [Act.put, List.getElem_toArray, List.getElem_cons_zero, List.getElem_cons_succ, List.setIfInBounds_toArray, List.set_cons_zero, List.set_cons_succ]
            refine wpAnyH_take (i := 12) (v := .pointer (some ⟨D, 1, none⟩)) rfl (by kernel_rfl) (by kernel_rfl) (by kernel_rfl) (fun _ _ _ h => h) (Or.inl ⟨by rfl, fun w hSw => ?_⟩) hC0 ?_
            · go_simp
            simp only [Act.put, List.getElem_toArray, List.getElem_cons_zero, List.getElem_cons_succ, List.setIfInBounds_toArray, List.set_cons_zero, List.set_cons_succ]
            refine wpAnyH_take (i := 1) (v := .slice (some ⟨g, 0, none⟩) p.updates.length c) rfl (by kernel_rfl) (by kernel_rfl) (by kernel_rfl) (fun _ _ _ h => h) (Or.inl ⟨by rfl, fun w hSw => ?_⟩) hC0 ?_
            · have yy := block_cell (j := 1) (hCp _ hSw) rfl; go_simp
            simp only [Act.put, List.getElem_toArray, List.getElem_cons_zero, List.getElem_cons_succ, List.setIfInBounds_toArray, List.set_cons_zero, List.set_cons_succ]
            refine wpAnyH_take (i := 3) (v := .slice (some ⟨g, 0, none⟩) p.updates.length c) rfl (by kernel_rfl) (by kernel_rfl) (by kernel_rfl) (fun _ _ _ h => h) (Or.inl ⟨by rfl, fun w hSw => ?_⟩) hC0 ?_
            · have yy := block_cell (j := 1) (hCp _ hSw) rfl; go_simp
            simp only [Act.put, List.getElem_toArray, List.getElem_cons_zero, List.getElem_cons_succ, List.setIfInBounds_toArray, List.set_cons_zero, List.set_cons_succ]
            refine wpAnyH_take (i := 7) (v := .slice (some ⟨g, 0, none⟩) p.updates.length c) rfl (by kernel_rfl) (by kernel_rfl) (by kernel_rfl) (fun _ _ _ h => h) (Or.inl ⟨by rfl, fun w hSw => ?_⟩) hC0 ?_
            · have yy := block_cell (j := 1) (hCp _ hSw) rfl; go_simp
            simp only [Act.put, List.getElem_toArray, List.getElem_cons_zero, List.getElem_cons_succ, List.setIfInBounds_toArray, List.set_cons_zero, List.set_cons_succ]
            refine wpAnyH_take (i := 13) (v := .slice (some ⟨g, 0, none⟩) p.updates.length c) rfl (by kernel_rfl) (by kernel_rfl) (by kernel_rfl) (fun _ _ _ h => h) (Or.inl ⟨by rfl, fun w hSw => ?_⟩) hC0 ?_
            · have yy := block_cell (j := 1) (hCp _ hSw) rfl; go_simp
            simp only [Act.put, List.getElem_toArray, List.getElem_cons_zero, List.getElem_cons_succ, List.setIfInBounds_toArray, List.set_cons_zero, List.set_cons_succ]
            refine wpAnyH_take (i := 4) (v := .int .i64 (p.updates.length : Int)) rfl (by kernel_rfl) (by kernel_rfl) (by kernel_rfl) (fun _ _ _ h => h) (Or.inl ⟨by rfl, fun w hSw => ?_⟩) hC0 ?_
            · go_simp
            simp only [Act.put, List.getElem_toArray, List.getElem_cons_zero, List.getElem_cons_succ, List.setIfInBounds_toArray, List.set_cons_zero, List.set_cons_succ]
            refine wpAnyH_take (i := 8) (v := .int .i64 (p.updates.length : Int)) rfl (by kernel_rfl) (by kernel_rfl) (by kernel_rfl) (fun _ _ _ h => h) (Or.inl ⟨by rfl, fun w hSw => ?_⟩) hC0 ?_
            · go_simp
            simp only [Act.put, List.getElem_toArray, List.getElem_cons_zero, List.getElem_cons_succ, List.setIfInBounds_toArray, List.set_cons_zero, List.set_cons_succ]
            refine wpAnyH_take (i := 5) (v := .int .i64 (m : Int)) rfl (by kernel_rfl) (by kernel_rfl) (by kernel_rfl) (fun _ _ _ h => h) (Or.inl ⟨by rfl, fun w hSw => ?_⟩) hC0 ?_
            · go_simp
            simp only [Act.put, List.getElem_toArray, List.getElem_cons_zero, List.getElem_cons_succ, List.setIfInBounds_toArray, List.set_cons_zero, List.set_cons_succ]
            refine wpAnyH_take (i := 9) (v := .int .i64 (m : Int)) rfl (by kernel_rfl) (by kernel_rfl) (by kernel_rfl) (fun _ _ _ h => h) (Or.inl ⟨by rfl, fun w hSw => ?_⟩) hC0 ?_
            · go_simp
            simp only [Act.put, List.getElem_toArray, List.getElem_cons_zero, List.getElem_cons_succ, List.setIfInBounds_toArray, List.set_cons_zero, List.set_cons_succ]
            refine wpAnyH_take (i := 10) (v := .pointer (some ⟨g, m * 3, none⟩)) rfl (by kernel_rfl) (by kernel_rfl) (by kernel_rfl) (fun _ _ _ h => h) (Or.inl ⟨by rfl, fun w hSw => ?_⟩) hC0 ?_
            · go_simp
              first | done | (intro hx; exfalso; first | omega | (rw [hx] at hmlt; exact absurd hmlt (Nat.not_lt_zero _)))
            simp only [Act.put, List.getElem_toArray, List.getElem_cons_zero, List.getElem_cons_succ, List.setIfInBounds_toArray, List.set_cons_zero, List.set_cons_succ]
            refine wpAnyH_take (i := 14) (v := .pointer (some ⟨g, 0, none⟩)) rfl (by kernel_rfl) (by kernel_rfl) (by kernel_rfl) (fun _ _ _ h => h) (Or.inl ⟨by rfl, fun w hSw => ?_⟩) hC0 ?_
            · go_simp
              first | done | (intro hx; exfalso; first | omega | (rw [hx] at hmlt; exact absurd hmlt (Nat.not_lt_zero _)))
            simp only [Act.put, List.getElem_toArray, List.getElem_cons_zero, List.getElem_cons_succ, List.setIfInBounds_toArray, List.set_cons_zero, List.set_cons_succ]
            refine wpAnyH_all (rs := [11, 15]) (by kernel_rfl) (by simp) (fun j hj => ?_)
            rcases List.mem_cons.1 hj with rfl | hj
            · skip
              refine Or.inl ?_
              go_wp2_with fail
              first | refine ⟨hC0, ?_⟩ | skip
              refine wpAnyH_all (rs := [15]) (by kernel_rfl) (by simp) (fun j hj => ?_)
              obtain rfl : j = 15 := by simpa using hj
              refine Or.inl ?_
              go_wp2_with fail
              first | refine ⟨hC0, ?_⟩ | skip
              refine wpAnyH_take (i := 16) (v := .pointer (some ⟨g, 0, none⟩)) rfl (by kernel_rfl) (by kernel_rfl) (by kernel_rfl) (fun _ _ _ h => h) (Or.inl ⟨by rfl, fun w hSw => ?_⟩) hC0 ?_
              · go_simp
                first | done | (intro hx; exfalso; first | omega | (rw [hx] at hmlt; exact absurd hmlt (Nat.not_lt_zero _)))
              simp only [Act.put, List.getElem_toArray, List.getElem_cons_zero, List.getElem_cons_succ, List.setIfInBounds_toArray, List.set_cons_zero, List.set_cons_succ]
              refine wpAnyH_all (rs := [17]) (by kernel_rfl) (by simp) (fun j hj => ?_)
              obtain rfl : j = 17 := by simpa using hj
              refine Or.inl ?_
              go_wp2_with fail
              first | refine ⟨hC1, ?_⟩ | skip
              refine wpAnyH_take (i := 18) (v := .pointer (some ⟨g, m * 3, none⟩)) rfl (by kernel_rfl) (by kernel_rfl) (by kernel_rfl) (fun _ _ _ h => h) (Or.inl ⟨by rfl, fun w hSw => ?_⟩) hC1 ?_
              · go_simp
                first | done | (intro hx; exfalso; first | omega | (rw [hx] at hmlt; exact absurd hmlt (Nat.not_lt_zero _)))
              simp only [Act.put, List.getElem_toArray, List.getElem_cons_zero, List.getElem_cons_succ, List.setIfInBounds_toArray, List.set_cons_zero, List.set_cons_succ]
              refine wpAnyH_all (rs := [19]) (by kernel_rfl) (by simp) (fun j hj => ?_)
              obtain rfl : j = 19 := by simpa using hj
              refine Or.inl ?_
              go_wp2_with fail
              first | refine ⟨hC2, ?_⟩ | skip
              first | refine wpAnyH_done (by kernel_rfl) ?_ _ | refine ⟨by kernel_rfl, ?_⟩
              have HEnd := Lib.hid (show In Q (((((((x0.setCell ⟨g, 0, none⟩ (.string um.name)).setCell ⟨g, 1, none⟩ (.int .i64 um.old)).setCell ⟨g, 2, none⟩ (.int .i64 um.new)).setCell ⟨g, m * 3, none⟩ (.string u0.name)).setCell ⟨g, m * 3 + 1, none⟩ (.int .i64 u0.old)).setCell ⟨g, m * 3 + 2, none⟩ (.int .i64 u0.new))) ∧ ∃ us : List Mv, us.Perm p.updates ∧ ((((((((x0.setCell ⟨g, 0, none⟩ (.string um.name)).setCell ⟨g, 1, none⟩ (.int .i64 um.old)).setCell ⟨g, 2, none⟩ (.int .i64 um.new)).setCell ⟨g, m * 3, none⟩ (.string u0.name)).setCell ⟨g, m * 3 + 1, none⟩ (.int .i64 u0.old)).setCell ⟨g, m * 3 + 2, none⟩ (.int .i64 u0.new)))).heap[D]? = some (.cells #[.slice oa p.objects.length oc, .slice (some ⟨g, 0, none⟩) p.updates.length c, .bool p.force] 26 (0, 0)) ∧ OwnU w5.heap.size (((((((x0.setCell ⟨g, 0, none⟩ (.string um.name)).setCell ⟨g, 1, none⟩ (.int .i64 um.old)).setCell ⟨g, 2, none⟩ (.int .i64 um.new)).setCell ⟨g, m * 3, none⟩ (.string u0.name)).setCell ⟨g, m * 3 + 1, none⟩ (.int .i64 u0.old)).setCell ⟨g, m * 3 + 2, none⟩ (.int .i64 u0.new))) (.slice (some ⟨g, 0, none⟩) p.updates.length c) us from ⟨hQ8, swapM p.updates, swap_perm (by omega), HB2x.out, HO7.out⟩)
              clear hC0 hC1 hC2 hCp HB2x a00 a01 a02 b00 b01 b02 e00 e01 e02 f1 f2 hQ8 hR7 HO7
              go_wp2_with fail
              go_meet
              exact ⟨rfl, _, rfl, HEnd⟩
            · skip
              obtain rfl : j = 15 := by simpa using hj
              refine Or.inl ?_
              go_wp2_with fail
              first | refine ⟨hC0, ?_⟩ | skip
              refine wpAnyH_all (rs := [11]) (by kernel_rfl) (by simp) (fun j hj => ?_)
              obtain rfl : j = 11 := by simpa using hj
              refine Or.inl ?_
              go_wp2_with fail
              first | refine ⟨hC0, ?_⟩ | skip
              refine wpAnyH_take (i := 16) (v := .pointer (some ⟨g, 0, none⟩)) rfl (by kernel_rfl) (by kernel_rfl) (by kernel_rfl) (fun _ _ _ h => h) (Or.inl ⟨by rfl, fun w hSw => ?_⟩) hC0 ?_
              · go_simp
                first | done | (intro hx; exfalso; first | omega | (rw [hx] at hmlt; exact absurd hmlt (Nat.not_lt_zero _)))
              simp only [Act.put, List.getElem_toArray, List.getElem_cons_zero, List.getElem_cons_succ, List.setIfInBounds_toArray, List.set_cons_zero, List.set_cons_succ]
              refine wpAnyH_all (rs := [17]) (by kernel_rfl) (by simp) (fun j hj => ?_)
              obtain rfl : j = 17 := by simpa using hj
              refine Or.inl ?_
              go_wp2_with fail
              first | refine ⟨hC1, ?_⟩ | skip
              refine wpAnyH_take (i := 18) (v := .pointer (some ⟨g, m * 3, none⟩)) rfl (by kernel_rfl) (by kernel_rfl) (by kernel_rfl) (fun _ _ _ h => h) (Or.inl ⟨by rfl, fun w hSw => ?_⟩) hC1 ?_
              · go_simp
                first | done | (intro hx; exfalso; first | omega | (rw [hx] at hmlt; exact absurd hmlt (Nat.not_lt_zero _)))
              simp only [Act.put, List.getElem_toArray, List.getElem_cons_zero, List.getElem_cons_succ, List.setIfInBounds_toArray, List.set_cons_zero, List.set_cons_succ]
              refine wpAnyH_all (rs := [19]) (by kernel_rfl) (by simp) (fun j hj => ?_)
              obtain rfl : j = 19 := by simpa using hj
              refine Or.inl ?_
              go_wp2_with fail
              first | refine ⟨hC2, ?_⟩ | skip
              first | refine wpAnyH_done (by kernel_rfl) ?_ _ | refine ⟨by kernel_rfl, ?_⟩
              have HEnd := Lib.hid (show In Q (((((((x0.setCell ⟨g, 0, none⟩ (.string um.name)).setCell ⟨g, 1, none⟩ (.int .i64 um.old)).setCell ⟨g, 2, none⟩ (.int .i64 um.new)).setCell ⟨g, m * 3, none⟩ (.string u0.name)).setCell ⟨g, m * 3 + 1, none⟩ (.int .i64 u0.old)).setCell ⟨g, m * 3 + 2, none⟩ (.int .i64 u0.new))) ∧ ∃ us : List Mv, us.Perm p.updates ∧ ((((((((x0.setCell ⟨g, 0, none⟩ (.string um.name)).setCell ⟨g, 1, none⟩ (.int .i64 um.old)).setCell ⟨g, 2, none⟩ (.int .i64 um.new)).setCell ⟨g, m * 3, none⟩ (.string u0.name)).setCell ⟨g, m * 3 + 1, none⟩ (.int .i64 u0.old)).setCell ⟨g, m * 3 + 2, none⟩ (.int .i64 u0.new)))).heap[D]? = some (.cells #[.slice oa p.objects.length oc, .slice (some ⟨g, 0, none⟩) p.updates.length c, .bool p.force] 26 (0, 0)) ∧ OwnU w5.heap.size (((((((x0.setCell ⟨g, 0, none⟩ (.string um.name)).setCell ⟨g, 1, none⟩ (.int .i64 um.old)).setCell ⟨g, 2, none⟩ (.int .i64 um.new)).setCell ⟨g, m * 3, none⟩ (.string u0.name)).setCell ⟨g, m * 3 + 1, none⟩ (.int .i64 u0.old)).setCell ⟨g, m * 3 + 2, none⟩ (.int .i64 u0.new))) (.slice (some ⟨g, 0, none⟩) p.updates.length c) us from ⟨hQ8, swapM p.updates, swap_perm (by omega), HB2x.out, HO7.out⟩)
              clear hC0 hC1 hC2 hCp HB2x a00 a01 a02 b00 b01 b02 e00 e01 e02 f1 f2 hQ8 hR7 HO7
              go_wp2_with fail
              go_meet
              exact ⟨rfl, _, rfl, HEnd⟩
        case rest =>
          obtain ⟨rfl, yr, rfl, HK⟩ := hcut
          obtain ⟨hQ6, us, hpus, hb6, hO6⟩ := HK.out
          have hR7 := hRn _ _ hR5 (hQb _ hQ6)
          have HO7 := Lib.hid hO6
          clear s0 s1 s2
          have p0 := block_cell (j := 0) hb6 rfl
          have p1 := block_cell (j := 1) hb6 rfl
          have p2 := block_cell (j := 2) hb6 rfl
          clear HK hb6 hO6
          have HMv := Lib.hid (HO7.out.mvs (by rw [hpus.length_eq]; have := Hby.out; omega))
          have HOf := Lib.hid (HOq.out us _ _ _ (hRb _ hR7) HMv.out)
          have hpm := Hp.out us hpus
          rw [hpm.1, hpm.2] at HOf
          generalize voteR r ⟨p.objects, us, p.force⟩ = V2 at HOf
          clear hpm hpus
          have ey0 := y0 _ hR7
          have ey1 := y1 _ hR7
          have ey2 := y2 _ hR7
          have ey3 := y3 _ hR7
          have ey4 := y4 _ hR7
          have ey5 := y5 _ hR7
          have ey6 := y6 _ hR7
          have ez0 := z0 _ hR7
          have ez1 := z1 _ hR7
          have ez2 := z2 _ hR7
          go_wp2_with fail
          refine HOf.out.mono ?_
          rintro e w8 ⟨rfl, hb8⟩
          have HE := Lib.hid (hRb _ (hRn _ _ hR7 hb8))
          clear hb8 HOf
          go_wp2_with fail
          go_ret
          exact ⟨rfl, HE.out⟩
  case pos =>
    obtain ⟨hv1, hv2⟩ := Hvy.out ht
    have q3 : decide ((4 : Int) < (V.size : Int)) = true := by simp; omega
    have q4 : ((V.extract 0 4).toList == [121, 101, 115, 32]) = true := by rw [hv2]; rfl
    have q5 : (V.toList == V.toList) = true := by simp
    have q6 : (4 : Int) ≤ (V.size : Int) := by omega
    rw [ht] at HTr
    clear hv1 hv2 Hvn Hvy
    have ay0 := y0 _ hR1
    have ay1 := y1 _ hR1
    have ay2 := y2 _ hR1
    have ay3 := y3 _ hR1
    have ay4 := y4 _ hR1
    have ay5 := y5 _ hR1
    have ay6 := y6 _ hR1
    have az0 := z0 _ hR1
    have az1 := z1 _ hR1
    have az2 := z2 _ hR1
    go_enter Tryz.func16, Tryz.ntmps16
    go_wp2_with fail
    refine (HO.out _ (hRb _ hR1)).mono ?_
    rintro e w2 ⟨rfl, hb2⟩
    have hR2 := hRn _ _ hR1 hb2
    clear hb2 ay0 ay1 ay2 ay3 ay4 ay5 ay6 az0 az1 az2 hR1
    go_wp2_with fail
    refine (HB.out _ (hRb _ hR2)).mono ?_
    rintro e w3 ⟨rfl, hb3⟩
    have hR3 := hRn _ _ hR2 hb3
    clear hb3 hR2 HB
    go_wp2_with fail
    refine (pushBegun_any _).mono ?_
    rintro e w4 ⟨rfl, hb4⟩
    have hR4 := hRn _ _ hR3 hb4
    clear hb4 hR3
    have by0 := y0 _ hR4
    have by1 := y1 _ hR4
    have by2 := y2 _ hR4
    have by3 := y3 _ hR4
    have by4 := y4 _ hR4
    have by5 := y5 _ hR4
    have by6 := y6 _ hR4
    have bz0 := z0 _ hR4
    have bz1 := z1 _ hR4
    have bz2 := z2 _ hR4
    go_wp2_with fail
    refine (HTr.out _ (hRb _ hR4)).mono ?_
    rintro e w5 ⟨v5, u5, rfl, hv5, hu5, hb5⟩
    obtain ⟨a5, c5, rfl⟩ := hv5.vshape
    obtain ⟨⟨p5, d5⟩, rfl⟩ := hu5.shape
    have hR5 := hRn _ _ hR4 hb5
    clear hv5 hu5 hb5 HTr hR4 by0 by1 by2 by3 by4 by5 by6 bz0 bz1 bz2
    go_wp2_with fail
    obtain ⟨Q, hQ, hQ1, hQu0⟩ := cls_fresh w5
    have hQb := hQ.below
    have hQn := hQ.next
    have HQu := Lib.hid hQu0
    clear hQu0
    have d0 := fun x (hx : In Q x) => below_cell (hQb _ hx) (z0 _ hR5)
    have d1 := fun x (hx : In Q x) => below_cell (hQb _ hx) (z1 _ hR5)
    have d2 := fun x (hx : In Q x) => below_cell (hQb _ hx) (z2 _ hR5)
    have HBu := Lib.hid (fun x (hx : In Q x) => HU0.out.below (hRb _ (hRn _ _ hR5 (hQb _ hx))))
    go_cut [12] (fun s12 wx => ∃ D, s12 = .pointer (some ⟨D, 0, none⟩) ∧ ∃ y, y = wx ∧ Hid (In Q y ∧ w5.heap.size ≤ D ∧ ∃ g c, y.heap[D]? = some (.cells #[.slice oa p.objects.length oc, .slice (some ⟨g, 0, none⟩) p.updates.length c, .bool p.force] 26 (0, 0)) ∧ OwnU w5.heap.size y (.slice (some ⟨g, 0, none⟩) p.updates.length c) p.updates))
    case first =>
      refine wp_region_held (S := In Q) (by kernel_rfl) ?_
      change wpAnyH _ _ _ _ _ _ _ _ (World.drew _)
      have hC0 := hQ.drew _ hQ1
      generalize w5.drew = x0 at hC0 ⊢
      refine wpAnyH_take (i := 0) (v := .pointer (some ⟨w.heap.size + 1, 0, none⟩)) rfl (by kernel_rfl) (by kernel_rfl) (by kernel_rfl) (fun _ _ _ h => h) (Or.inl ⟨by rfl, fun w hSw => ?_⟩) hC0 ?_
      · go_simp
      simp only [Act.put, List.getElem_toArray, List.getElem_cons_zero, List.getElem_cons_succ, List.setIfInBounds_toArray, List.set_cons_zero, List.set_cons_succ]
      refine wpAnyH_take (i := 1) (v := .slice oa p.objects.length oc) rfl (by kernel_rfl) (by kernel_rfl) (by kernel_rfl) (fun _ _ _ h => h) (Or.inl ⟨by rfl, fun w hSw => ?_⟩) hC0 ?_
      · have yy := d0 _ hSw; go_simp
      simp only [Act.put, List.getElem_toArray, List.getElem_cons_zero, List.getElem_cons_succ, List.setIfInBounds_toArray, List.set_cons_zero, List.set_cons_succ]
      refine wpAnyH_take (i := 3) (v := .pointer (some ⟨w.heap.size + 1, 1, none⟩)) rfl (by kernel_rfl) (by kernel_rfl) (by kernel_rfl) (fun _ _ _ h => h) (Or.inl ⟨by rfl, fun w hSw => ?_⟩) hC0 ?_
      · go_simp
      simp only [Act.put, List.getElem_toArray, List.getElem_cons_zero, List.getElem_cons_succ, List.setIfInBounds_toArray, List.set_cons_zero, List.set_cons_succ]
      refine wpAnyH_take (i := 4) (v := .slice ua p.updates.length uc) rfl (by kernel_rfl) (by kernel_rfl) (by kernel_rfl) (fun _ _ _ h => h) (Or.inl ⟨by rfl, fun w hSw => ?_⟩) hC0 ?_
      · have yy := d1 _ hSw; go_simp
      simp only [Act.put, List.getElem_toArray, List.getElem_cons_zero, List.getElem_cons_succ, List.setIfInBounds_toArray, List.set_cons_zero, List.set_cons_succ]
      refine wpAnyH_take (i := 6) (v := .pointer (some ⟨w.heap.size + 1, 2, none⟩)) rfl (by kernel_rfl) (by kernel_rfl) (by kernel_rfl) (fun _ _ _ h => h) (Or.inl ⟨by rfl, fun w hSw => ?_⟩) hC0 ?_
      · go_simp
      simp only [Act.put, List.getElem_toArray, List.getElem_cons_zero, List.getElem_cons_succ, List.setIfInBounds_toArray, List.set_cons_zero, List.set_cons_succ]
      refine wpAnyH_take (i := 7) (v := .bool p.force) rfl (by kernel_rfl) (by kernel_rfl) (by kernel_rfl) (fun _ _ _ h => h) (Or.inl ⟨by rfl, fun w hSw => ?_⟩) hC0 ?_
      · have yy := d2 _ hSw; go_simp
      simp only [Act.put, List.getElem_toArray, List.getElem_cons_zero, List.getElem_cons_succ, List.setIfInBounds_toArray, List.set_cons_zero, List.set_cons_succ]
      refine wpAnyH_all (rs := [2, 9]) (by kernel_rfl) (by simp) (fun j hj => ?_)
      rcases List.mem_cons.1 hj with rfl | hj
      · skip
        refine Or.inl ?_
        have hC1 := hQ.alloc _ (.cells #[] 93) hC0
        have hq0 := (hQb _ hC0).size
        have HOw := Lib.hid ((ownU_empty x0).base hq0)
        have hbA : Below x0.heap.size x0 (x0.alloc (.cells #[] 93)) := (Below.refl _ _).alloc (Nat.le_refl _) _
        clear hbA
        go_simp
        generalize x0.heap.size = E at *
        generalize x0.alloc (.cells #[] 93) = x1 at *
        refine wpAnyH_all (rs := [5, 9]) (by kernel_rfl) (by simp) (fun j hj => ?_)
        rcases List.mem_cons.1 hj with rfl | hj
        · skip
          refine Or.inl ?_
          have hq1 := (hQb _ hC1).size
          obtain ⟨v4, x2, hr4, hO4, hu4⟩ := appendMvs_row (l := []) 24 HOw.out (HBu.out _ hC1) (by have := Hby.out; simp; omega) hq1
          have hC2 := HQu.out _ _ _ hC1 hu4 (fun b hb => (HOw.out.block hb).1)
          rw [List.nil_append] at hO4
          obtain ⟨a4, c, rfl⟩ := hO4.shape
          obtain ⟨g, rfl⟩ : ∃ g, a4 = some ⟨g, 0, none⟩ := by
            rcases hO4.1.2 with ⟨e, h0⟩ | ⟨g, cp, cur, e, _⟩
            · exfalso; have := Hl0.out; omega
            · cases e; exact ⟨g, rfl⟩
          have HO5 := Lib.hid hO4
          clear hO4 hu4
          refine wp_append_run (.tmp 52) (.tmp 54) 24 (by rfl) _ _ _ (by rfl) (by rfl) hr4 ?_
          simp only [Act.put, List.getElem_toArray, List.getElem_cons_zero, List.getElem_cons_succ, List.setIfInBounds_toArray, List.set_cons_zero, List.set_cons_succ]
          refine ⟨hC2, ?_⟩
          clear hr4 HOw
          refine wpAnyH_take (i := 8) (v := .agg #[.slice oa p.objects.length oc, .slice (some ⟨g, 0, none⟩) p.updates.length c, .bool p.force]) rfl (by kernel_rfl) (by kernel_rfl) (by kernel_rfl) (fun _ _ _ h => h) (Or.inl ⟨by rfl, fun w hSw => ?_⟩) hC2 ?_
          · go_simp
          simp only [Act.put, List.getElem_toArray, List.getElem_cons_zero, List.getElem_cons_succ, List.setIfInBounds_toArray, List.set_cons_zero, List.set_cons_succ]
          refine wpAnyH_all (rs := [9]) (by kernel_rfl) (by simp) (fun j hj => ?_)
          obtain rfl : j = 9 := by simpa using hj
          refine Or.inl ?_
          have hC3 := hQ.alloc _ (.cells #[.slice none 0 0, .slice none 0 0, .bool false] 26) hC2
          have HDb := Lib.hid (heap_alloc_new x2 (.cells #[.slice none 0 0, .slice none 0 0, .bool false] 26))
          have HDge := Lib.hid (hQb _ hC2).size
          have hbA : Below x2.heap.size x2 (x2.alloc (.cells #[.slice none 0 0, .slice none 0 0, .bool false] 26)) := (Below.refl _ _).alloc (Nat.le_refl _) _
          replace HO5 := Lib.hid (HO5.out.below hbA)
          clear hbA
          go_simp
          generalize x2.heap.size = D at *
          generalize x2.alloc (.cells #[.slice none 0 0, .slice none 0 0, .bool false] 26) = x3 at *
          refine wpAnyH_all (rs := [10]) (by kernel_rfl) (by simp) (fun j hj => ?_)
          obtain rfl : j = 10 := by simpa using hj
          refine Or.inl ?_
          have hblk := HDb.out
          have g0 := block_cell (j := 0) hblk rfl
          have g1 := block_cell (j := 1) hblk rfl
          have g2 := block_cell (j := 2) hblk rfl
          have f0 := block_free (j := 0) hblk
          have f1 := block_free (j := 1) hblk
          have f2 := block_free (j := 2) hblk
          have Hb3 := Lib.hid (set3_is (v0 := .slice oa p.objects.length oc) (v1 := .slice (some ⟨g, 0, none⟩) p.updates.length c) (v2 := .bool p.force) hblk)
          have Hu3 := Lib.hid (set3_upd D (.slice oa p.objects.length oc) (.slice (some ⟨g, 0, none⟩) p.updates.length c) (.bool p.force) x3)
          have hC9 := HQu.out _ _ _ hC3 Hu3.out (fun b hb => by have := HDge.out; omega)
          have HO9 := Lib.hid (HO5.out.upd Hu3.out (fun g2 hg e => own_other HO5.out hblk (by rw [hg, e])))
          clear hblk
          go_wp2_with fail
          first | refine ⟨hC9, ?_⟩ | skip
          first | refine wpAnyH_done (by kernel_rfl) ?_ _ | refine ⟨by kernel_rfl, ?_⟩
          first | change Exit.then _ _ _ _ (set3 D (.slice oa p.objects.length oc) (.slice (some ⟨g, 0, none⟩) p.updates.length c) (.bool p.force) x3) | skip
          have HEnd := Lib.hid (show In Q (set3 D (.slice oa p.objects.length oc) (.slice (some ⟨g, 0, none⟩) p.updates.length c) (.bool p.force) x3) ∧ w5.heap.size ≤ D ∧ ∃ g1 c1, (set3 D (.slice oa p.objects.length oc) (.slice (some ⟨g, 0, none⟩) p.updates.length c) (.bool p.force) x3).heap[D]? = some (.cells #[.slice oa p.objects.length oc, .slice (some ⟨g1, 0, none⟩) p.updates.length c1, .bool p.force] 26 (0, 0)) ∧ OwnU w5.heap.size (set3 D (.slice oa p.objects.length oc) (.slice (some ⟨g, 0, none⟩) p.updates.length c) (.bool p.force) x3) (.slice (some ⟨g1, 0, none⟩) p.updates.length c1) p.updates from ⟨hC9, HDge.out, g, c, Hb3.out, HO9.out⟩)
          go_wp2_with fail
          go_meet
          exact ⟨D, rfl, _, rfl, HEnd⟩
        · skip
          obtain rfl : j = 9 := by simpa using hj
          refine Or.inl ?_
          have hC2 := hQ.alloc _ (.cells #[.slice none 0 0, .slice none 0 0, .bool false] 26) hC1
          have HDb := Lib.hid (heap_alloc_new x1 (.cells #[.slice none 0 0, .slice none 0 0, .bool false] 26))
          have HDge := Lib.hid (hQb _ hC1).size
          have hbA : Below x1.heap.size x1 (x1.alloc (.cells #[.slice none 0 0, .slice none 0 0, .bool false] 26)) := (Below.refl _ _).alloc (Nat.le_refl _) _
          replace HOw := Lib.hid (HOw.out.below hbA)
          clear hbA
          go_simp
          generalize x1.heap.size = D at *
          generalize x1.alloc (.cells #[.slice none 0 0, .slice none 0 0, .bool false] 26) = x2 at *
          refine wpAnyH_all (rs := [5]) (by kernel_rfl) (by simp) (fun j hj => ?_)
          obtain rfl : j = 5 := by simpa using hj
          refine Or.inl ?_
          have hq2 := (hQb _ hC2).size
          obtain ⟨v4, x3, hr4, hO4, hu4⟩ := appendMvs_row (l := []) 24 HOw.out (HBu.out _ hC2) (by have := Hby.out; simp; omega) hq2
          have hC3 := HQu.out _ _ _ hC2 hu4 (fun b hb => (HOw.out.block hb).1)
          rw [List.nil_append] at hO4
          obtain ⟨a4, c, rfl⟩ := hO4.shape
          obtain ⟨g, rfl⟩ : ∃ g, a4 = some ⟨g, 0, none⟩ := by
            rcases hO4.1.2 with ⟨e, h0⟩ | ⟨g, cp, cur, e, _⟩
            · exfalso; have := Hl0.out; omega
            · cases e; exact ⟨g, rfl⟩
          replace HDb := Lib.hid (hu4.blk HDb.out (fun e => own_other HOw.out HDb.out e))
          have HO5 := Lib.hid hO4
          clear hO4 hu4
          refine wp_append_run (.tmp 52) (.tmp 54) 24 (by rfl) _ _ _ (by rfl) (by rfl) hr4 ?_
          simp only [Act.put, List.getElem_toArray, List.getElem_cons_zero, List.getElem_cons_succ, List.setIfInBounds_toArray, List.set_cons_zero, List.set_cons_succ]
          refine ⟨hC3, ?_⟩
          clear hr4 HOw
          refine wpAnyH_take (i := 8) (v := .agg #[.slice oa p.objects.length oc, .slice (some ⟨g, 0, none⟩) p.updates.length c, .bool p.force]) rfl (by kernel_rfl) (by kernel_rfl) (by kernel_rfl) (fun _ _ _ h => h) (Or.inl ⟨by rfl, fun w hSw => ?_⟩) hC3 ?_
          · go_simp
          simp only [Act.put, List.getElem_toArray, List.getElem_cons_zero, List.getElem_cons_succ, List.setIfInBounds_toArray, List.set_cons_zero, List.set_cons_succ]
          refine wpAnyH_all (rs := [10]) (by kernel_rfl) (by simp) (fun j hj => ?_)
          obtain rfl : j = 10 := by simpa using hj
          refine Or.inl ?_
          have hblk := HDb.out
          have g0 := block_cell (j := 0) hblk rfl
          have g1 := block_cell (j := 1) hblk rfl
          have g2 := block_cell (j := 2) hblk rfl
          have f0 := block_free (j := 0) hblk
          have f1 := block_free (j := 1) hblk
          have f2 := block_free (j := 2) hblk
          have Hb3 := Lib.hid (set3_is (v0 := .slice oa p.objects.length oc) (v1 := .slice (some ⟨g, 0, none⟩) p.updates.length c) (v2 := .bool p.force) hblk)
          have Hu3 := Lib.hid (set3_upd D (.slice oa p.objects.length oc) (.slice (some ⟨g, 0, none⟩) p.updates.length c) (.bool p.force) x3)
          have hC9 := HQu.out _ _ _ hC3 Hu3.out (fun b hb => by have := HDge.out; omega)
          have HO9 := Lib.hid (HO5.out.upd Hu3.out (fun g2 hg e => own_other HO5.out hblk (by rw [hg, e])))
          clear hblk
          go_wp2_with fail
          first | refine ⟨hC9, ?_⟩ | skip
          first | refine wpAnyH_done (by kernel_rfl) ?_ _ | refine ⟨by kernel_rfl, ?_⟩
          first | change Exit.then _ _ _ _ (set3 D (.slice oa p.objects.length oc) (.slice (some ⟨g, 0, none⟩) p.updates.length c) (.bool p.force) x3) | skip
          have HEnd := Lib.hid (show In Q (set3 D (.slice oa p.objects.length oc) (.slice (some ⟨g, 0, none⟩) p.updates.length c) (.bool p.force) x3) ∧ w5.heap.size ≤ D ∧ ∃ g1 c1, (set3 D (.slice oa p.objects.length oc) (.slice (some ⟨g, 0, none⟩) p.updates.length c) (.bool p.force) x3).heap[D]? = some (.cells #[.slice oa p.objects.length oc, .slice (some ⟨g1, 0, none⟩) p.updates.length c1, .bool p.force] 26 (0, 0)) ∧ OwnU w5.heap.size (set3 D (.slice oa p.objects.length oc) (.slice (some ⟨g, 0, none⟩) p.updates.length c) (.bool p.force) x3) (.slice (some ⟨g1, 0, none⟩) p.updates.length c1) p.updates from ⟨hC9, HDge.out, g, c, Hb3.out, HO9.out⟩)
          go_wp2_with fail
          go_meet
          exact ⟨D, rfl, _, rfl, HEnd⟩
      · skip
        obtain rfl : j = 9 := by simpa using hj
        refine Or.inl ?_
        have hC1 := hQ.alloc _ (.cells #[.slice none 0 0, .slice none 0 0, .bool false] 26) hC0
        have HDb := Lib.hid (heap_alloc_new x0 (.cells #[.slice none 0 0, .slice none 0 0, .bool false] 26))
        have HDge := Lib.hid (hQb _ hC0).size
        have hbA : Below x0.heap.size x0 (x0.alloc (.cells #[.slice none 0 0, .slice none 0 0, .bool false] 26)) := (Below.refl _ _).alloc (Nat.le_refl _) _
        clear hbA
        go_simp
        generalize x0.heap.size = D at *
        generalize x0.alloc (.cells #[.slice none 0 0, .slice none 0 0, .bool false] 26) = x1 at *
        refine wpAnyH_all (rs := [2]) (by kernel_rfl) (by simp) (fun j hj => ?_)
        obtain rfl : j = 2 := by simpa using hj
        refine Or.inl ?_
        have hC2 := hQ.alloc _ (.cells #[] 93) hC1
        have hq1 := (hQb _ hC1).size
        have HOw := Lib.hid ((ownU_empty x1).base hq1)
        have hbA : Below x1.heap.size x1 (x1.alloc (.cells #[] 93)) := (Below.refl _ _).alloc (Nat.le_refl _) _
        replace HDb := Lib.hid (blkB HDb.out hbA)
        clear hbA
        go_simp
        generalize x1.heap.size = E at *
        generalize x1.alloc (.cells #[] 93) = x2 at *
        refine wpAnyH_all (rs := [5]) (by kernel_rfl) (by simp) (fun j hj => ?_)
        obtain rfl : j = 5 := by simpa using hj
        refine Or.inl ?_
        have hq2 := (hQb _ hC2).size
        obtain ⟨v4, x3, hr4, hO4, hu4⟩ := appendMvs_row (l := []) 24 HOw.out (HBu.out _ hC2) (by have := Hby.out; simp; omega) hq2
        have hC3 := HQu.out _ _ _ hC2 hu4 (fun b hb => (HOw.out.block hb).1)
        rw [List.nil_append] at hO4
        obtain ⟨a4, c, rfl⟩ := hO4.shape
        obtain ⟨g, rfl⟩ : ∃ g, a4 = some ⟨g, 0, none⟩ := by
          rcases hO4.1.2 with ⟨e, h0⟩ | ⟨g, cp, cur, e, _⟩
          · exfalso; have := Hl0.out; omega
          · cases e; exact ⟨g, rfl⟩
        replace HDb := Lib.hid (hu4.blk HDb.out (fun e => own_other HOw.out HDb.out e))
        have HO5 := Lib.hid hO4
        clear hO4 hu4
        refine wp_append_run (.tmp 52) (.tmp 54) 24 (by rfl) _ _ _ (by rfl) (by rfl) hr4 ?_
        simp only [Act.put, List.getElem_toArray, List.getElem_cons_zero, List.getElem_cons_succ, List.setIfInBounds_toArray, List.set_cons_zero, List.set_cons_succ]
        refine ⟨hC3, ?_⟩
        clear hr4 HOw
        refine wpAnyH_take (i := 8) (v := .agg #[.slice oa p.objects.length oc, .slice (some ⟨g, 0, none⟩) p.updates.length c, .bool p.force]) rfl (by kernel_rfl) (by kernel_rfl) (by kernel_rfl) (fun _ _ _ h => h) (Or.inl ⟨by rfl, fun w hSw => ?_⟩) hC3 ?_
        · go_simp
        simp only [Act.put, List.getElem_toArray, List.getElem_cons_zero, List.getElem_cons_succ, List.setIfInBounds_toArray, List.set_cons_zero, List.set_cons_succ]
        refine wpAnyH_all (rs := [10]) (by kernel_rfl) (by simp) (fun j hj => ?_)
        obtain rfl : j = 10 := by simpa using hj
        refine Or.inl ?_
        have hblk := HDb.out
        have g0 := block_cell (j := 0) hblk rfl
        have g1 := block_cell (j := 1) hblk rfl
        have g2 := block_cell (j := 2) hblk rfl
        have f0 := block_free (j := 0) hblk
        have f1 := block_free (j := 1) hblk
        have f2 := block_free (j := 2) hblk
        have Hb3 := Lib.hid (set3_is (v0 := .slice oa p.objects.length oc) (v1 := .slice (some ⟨g, 0, none⟩) p.updates.length c) (v2 := .bool p.force) hblk)
        have Hu3 := Lib.hid (set3_upd D (.slice oa p.objects.length oc) (.slice (some ⟨g, 0, none⟩) p.updates.length c) (.bool p.force) x3)
        have hC9 := HQu.out _ _ _ hC3 Hu3.out (fun b hb => by have := HDge.out; omega)
        have HO9 := Lib.hid (HO5.out.upd Hu3.out (fun g2 hg e => own_other HO5.out hblk (by rw [hg, e])))
        clear hblk
        go_wp2_with fail
        first | refine ⟨hC9, ?_⟩ | skip
        first | refine wpAnyH_done (by kernel_rfl) ?_ _ | refine ⟨by kernel_rfl, ?_⟩
        first | change Exit.then _ _ _ _ (set3 D (.slice oa p.objects.length oc) (.slice (some ⟨g, 0, none⟩) p.updates.length c) (.bool p.force) x3) | skip
        have HEnd := Lib.hid (show In Q (set3 D (.slice oa p.objects.length oc) (.slice (some ⟨g, 0, none⟩) p.updates.length c) (.bool p.force) x3) ∧ w5.heap.size ≤ D ∧ ∃ g1 c1, (set3 D (.slice oa p.objects.length oc) (.slice (some ⟨g, 0, none⟩) p.updates.length c) (.bool p.force) x3).heap[D]? = some (.cells #[.slice oa p.objects.length oc, .slice (some ⟨g1, 0, none⟩) p.updates.length c1, .bool p.force] 26 (0, 0)) ∧ OwnU w5.heap.size (set3 D (.slice oa p.objects.length oc) (.slice (some ⟨g, 0, none⟩) p.updates.length c) (.bool p.force) x3) (.slice (some ⟨g1, 0, none⟩) p.updates.length c1) p.updates from ⟨hC9, HDge.out, g, c, Hb3.out, HO9.out⟩)
        go_wp2_with fail
        go_meet
        exact ⟨D, rfl, _, rfl, HEnd⟩
    case rest =>
      obtain ⟨D, rfl, yq, rfl, HK⟩ := hcut
      obtain ⟨hQ5, hD5, g, c, hb5, hO5⟩ := HK.out
      have hR6 := hRn _ _ hR5 (hQb _ hQ5)
      have Hb5 := Lib.hid hb5
      have HO6 := Lib.hid hO5
      have HD5 := Lib.hid hD5
      clear HK hb5 hO5
      have s0 := block_cell (j := 0) Hb5.out rfl
      have s1 := block_cell (j := 1) Hb5.out rfl
      have s2 := block_cell (j := 2) Hb5.out rfl
      cases turned
      case false =>
        have HO7 := HO6
        have hR7 := hR6
        have HMv := Lib.hid (HO7.out.mvs (by have := Hby.out; omega))
        have HOf := Lib.hid (HOq.out p.updates _ _ _ (hRb _ hR7) HMv.out)
        have hpm := Hp.out p.updates (List.Perm.refl _)
        rw [hpm.1, hpm.2] at HOf
        rw [Hpv.out _ (List.Perm.refl _) ht] at HOf
        have ey0 := y0 _ hR7
        have ey1 := y1 _ hR7
        have ey2 := y2 _ hR7
        have ey3 := y3 _ hR7
        have ey4 := y4 _ hR7
        have ey5 := y5 _ hR7
        have ey6 := y6 _ hR7
        have ez0 := z0 _ hR7
        have ez1 := z1 _ hR7
        have ez2 := z2 _ hR7
        go_wp2_with fail
        refine HOf.out.mono ?_
        rintro e w8 ⟨rfl, hb8⟩
        have HE := Lib.hid (hRb _ (hRn _ _ hR7 hb8))
        clear hb8 HOf
        go_wp2_with fail
        go_ret
        exact ⟨rfl, HE.out⟩
      case true =>
        go_upto_if 66 with (fail)
        go_cut [12] from 62 to 101 (fun s12 wx => s12 = .pointer (some ⟨D, 0, none⟩) ∧ ∃ y, y = wx ∧ Hid (In Q y ∧ ∃ us : List Mv, us.Perm p.updates ∧ y.heap[D]? = some (.cells #[.slice oa p.objects.length oc, .slice (some ⟨g, 0, none⟩) p.updates.length c, .bool p.force] 26 (0, 0)) ∧ OwnU w5.heap.size y (.slice (some ⟨g, 0, none⟩) p.updates.length c) us))
        case first =>
          by_cases hn : 1 < p.updates.length
          case neg =>
            have q7 : decide ((1 : Int) < (p.updates.length : Int)) = false := by simp; omega
            clear hn
            have HEnd := Lib.hid (show In Q yq ∧ ∃ us : List Mv, us.Perm p.updates ∧ yq.heap[D]? = some (.cells #[.slice oa p.objects.length oc, .slice (some ⟨g, 0, none⟩) p.updates.length c, .bool p.force] 26 (0, 0)) ∧ OwnU w5.heap.size yq (.slice (some ⟨g, 0, none⟩) p.updates.length c) us from ⟨hQ5, _, List.Perm.refl _, Hb5.out, HO6.out⟩)
            simp only [q7]
            go_wp2_with fail
            go_meet
            exact ⟨rfl, _, rfl, HEnd⟩
          case pos =>
            have q7 : decide ((1 : Int) < (p.updates.length : Int)) = true := by simp; omega
            simp only [q7]
            go_wp2_with fail
            clear s0 s1 s2
            have hbd : Below yq.heap.size yq yq.drew := (Below.refl _ _).drew
            have hB0 := blkB Hb5.out hbd
            obtain ⟨C2, hC0, hCp, hCi⟩ := as_class (fun z : World => z.heap[D]? = some (.cells #[.slice oa p.objects.length oc, .slice (some ⟨g, 0, none⟩) p.updates.length c, .bool p.force] 26 (0, 0))) (x := yq.drew) hB0
            refine wp_region_held (S := In C2) (by kernel_rfl) ?_
            change wpAnyH _ _ _ _ _ _ _ _ (World.drew _)
            have hbd2 := hbd
            have HOx := Lib.hid (HO6.out.below hbd)
            have hQ6 := hQ.drew _ hQ5
            clear hbd hbd2 Hb5 HO6 hQ5 hR6
            generalize yq.drew = x0 at *
            obtain ⟨m, hm⟩ : ∃ m, p.updates.length = m + 1 := ⟨p.updates.length - 1, by omega⟩
            have hm1 : ((p.updates.length : Nat) : Int) - 1 = (m : Int) := by omega
            have hwm := wrap_in (n := ((p.updates.length : Nat) : Int) - 1) (by have := Hl4.out; omega)
            rw [hm1] at hwm
            have hmlt : m < p.updates.length := by omega
            have hm2 : (m : Int) < (p.updates.length : Int) := by omega
            have hm3 : (0 : Int) ≤ (m : Int) := by omega
            have h0lt : (0 : Int) < (p.updates.length : Int) := by omega
            have hm0 : 0 < m := by omega
            have op : ∀ (y : World) (l : List Mv) (hO : OwnU w5.heap.size y (.slice (some ⟨g, 0, none⟩) p.updates.length c) l) (hl : l.length = p.updates.length) (i : Nat), i < p.updates.length → y.cell? ⟨g, i * 3, none⟩ = some (.string (mv l i).name) ∧ y.cell? ⟨g, i * 3 + 1, none⟩ = some (.int .i64 (mv l i).old) ∧ y.cell? ⟨g, i * 3 + 2, none⟩ = some (.int .i64 (mv l i).new) := by
              intro y l hO hl i hi
              obtain ⟨a, n, cc, hN, e, _, _, _, hop⟩ := (hO.mvs (by rw [hl]; have := Hby.out; omega)).open
              cases e
              obtain ⟨b, off, e, _, k0, k1, k2⟩ := hop (by omega)
              cases e
              have h0 := k0 i _ hi (Below.refl _ _)
              have h1 := k1 i _ hi (Below.refl _ _)
              have h2 := k2 i _ hi (Below.refl _ _)
              simp only [Nat.zero_add] at h0 h1 h2
              exact ⟨h0, h1, h2⟩
            have mk1 := HOx.out.2 _ (mv_mem hmlt)
            have mk0 := HOx.out.2 _ (mv_mem (show 0 < p.updates.length by omega))
            have hset1 := HOx.out.set (i := 0) (by omega) mk1
            have hset2 := hset1.1.set (i := m) (by rw [List.length_set]; exact hmlt) mk0
            have hsw : (p.updates.set 0 (mv p.updates m)).set m (mv p.updates 0) = swapM p.updates := by unfold swapM; rw [show p.updates.length - 1 = m by omega]
            rw [hsw] at hset2
            rw [show mvCells (mv p.updates m) = [.string (mv p.updates m).name, .int .i64 (mv p.updates m).old, .int .i64 (mv p.updates m).new] from rfl, setCells3] at hset1 hset2
            rw [show mvCells (mv p.updates 0) = [.string (mv p.updates 0).name, .int .i64 (mv p.updates 0).old, .int .i64 (mv p.updates 0).new] from rfl, setCells3] at hset2
            simp only [Nat.zero_mul, Nat.zero_add] at hset1 hset2
            have f1 := HOx.out.free
            have f2 := hset1.1.free
            obtain ⟨a00, a01, a02⟩ := op _ _ HOx.out rfl 0 (by omega)
            obtain ⟨b00, b01, b02⟩ := op _ _ HOx.out rfl m hmlt
            obtain ⟨e00, e01, e02⟩ := op _ _ hset1.1 (List.length_set) m hmlt
            simp only [Nat.zero_mul, Nat.zero_add] at a00 a01 a02
            have hDg : D ≠ g := fun e => own_other HOx.out hB0 (by rw [e]; rfl)
            have hB1 := hset1.2.blk hB0 hDg
            have hB2 := hset2.2.blk hB1 hDg
            have hC1 := hCi _ hB1
            have hC2 := hCi _ hB2
            have HB2x := Lib.hid hB2
            clear hB0 hB1 hB2 hCi
            have hQ7 := HQu.out _ _ _ hQ6 hset1.2 (fun b hb => by subst hb; exact (HOx.out.block rfl).1)
            have hQ8 := HQu.out _ _ _ hQ7 hset2.2 (fun b hb => by subst hb; exact (HOx.out.block rfl).1)
            have HO7 := Lib.hid hset2.1
            have hR7 := hRn _ _ hR5 (hQb _ hQ8)
            generalize hum : mv p.updates m = um at *
            generalize hu0 : mv p.updates 0 = u0 at *
            have Hm := Lib.hid hm
            clear hset1 hset2 hsw op HOx mk0 mk1 hQ7 hQ6 hum hu0 hm
            refine wpAnyH_take (i := 0) (v := .pointer (some ⟨D, 1, none⟩)) rfl (by kernel_rfl) (by kernel_rfl) (by kernel_rfl) (fun _ _ _ h => h) (Or.inl ⟨by rfl, fun w hSw => ?_⟩) hC0 ?_
            · go_simp
            simp only [Act.put, List.getElem_toArray, List.getElem_cons_zero, List.getElem_cons_succ, List.setIfInBounds_toArray, List.set_cons_zero, List.set_cons_succ]
            refine wpAnyH_take (i := 2) (v := .pointer (some ⟨D, 1, none⟩)) rfl (by kernel_rfl) (by kernel_rfl) (by kernel_rfl) (fun _ _ _ h => h) (Or.inl ⟨by rfl, fun w hSw => ?_⟩) hC0 ?_
            · go_simp
            simp only [Act.put, List.getElem_toArray, List.getElem_cons_zero, List.getElem_cons_succ, List.setIfInBounds_toArray, List.set_cons_zero, List.set_cons_succ]
            refine wpAnyH_take (i := 6) (v := .pointer (some ⟨D, 1, none⟩)) rfl (by kernel_rfl) (by kernel_rfl) (by kernel_rfl) (fun _ _ _ h => h) (Or.inl ⟨by rfl, fun w hSw => ?_⟩) hC0 ?_
            · go_simp
            simp only [Act.put, List.getElem_toArray, List.getElem_cons_zero, List.getElem_cons_succ, List.setIfInBounds_toArray, List.set_cons_zero, List.set_cons_succ]
            refine wpAnyH_take (i := 12) (v := .pointer (some ⟨D, 1, none⟩)) rfl (by kernel_rfl) (by kernel_rfl) (by kernel_rfl) (fun _ _ _ h => h) (Or.inl ⟨by rfl, fun w hSw => ?_⟩) hC0 ?_
            · go_simp
            simp only [Act.put, List.getElem_toArray, List.getElem_cons_zero, List.getElem_cons_succ, List.setIfInBounds_toArray, List.set_cons_zero, List.set_cons_succ]
            refine wpAnyH_take (i := 1) (v := .slice (some ⟨g, 0, none⟩) p.updates.length c) rfl (by kernel_rfl) (by kernel_rfl) (by kernel_rfl) (fun _ _ _ h => h) (Or.inl ⟨by rfl, fun w hSw => ?_⟩) hC0 ?_
            · have yy := block_cell (j := 1) (hCp _ hSw) rfl; go_simp
            simp only [Act.put, List.getElem_toArray, List.getElem_cons_zero, List.getElem_cons_succ, List.setIfInBounds_toArray, List.set_cons_zero, List.set_cons_succ]
            refine wpAnyH_take (i := 3) (v := .slice (some ⟨g, 0, none⟩) p.updates.length c) rfl (by kernel_rfl) (by kernel_rfl) (by kernel_rfl) (fun _ _ _ h => h) (Or.inl ⟨by rfl, fun w hSw => ?_⟩) hC0 ?_
            · have yy := block_cell (j := 1) (hCp _ hSw) rfl; go_simp
            simp only [Act.put, List.getElem_toArray, List.getElem_cons_zero, List.getElem_cons_succ, List.setIfInBounds_toArray, List.set_cons_zero, List.set_cons_succ]
            refine wpAnyH_take (i := 7) (v := .slice (some ⟨g, 0, none⟩) p.updates.length c) rfl (by kernel_rfl) (by kernel_rfl) (by kernel_rfl) (fun _ _ _ h => h) (Or.inl ⟨by rfl, fun w hSw => ?_⟩) hC0 ?_
            · have yy := block_cell (j := 1) (hCp _ hSw) rfl; go_simp
            simp only [Act.put, List.getElem_toArray, List.getElem_cons_zero, List.getElem_cons_succ, List.setIfInBounds_toArray, List.set_cons_zero, List.set_cons_succ]
            refine wpAnyH_take (i := 13) (v := .slice (some ⟨g, 0, none⟩) p.updates.length c) rfl (by kernel_rfl) (by kernel_rfl) (by kernel_rfl) (fun _ _ _ h => h) (Or.inl ⟨by rfl, fun w hSw => ?_⟩) hC0 ?_
            · have yy := block_cell (j := 1) (hCp _ hSw) rfl; go_simp
            simp only [Act.put, List.getElem_toArray, List.getElem_cons_zero, List.getElem_cons_succ, List.setIfInBounds_toArray, List.set_cons_zero, List.set_cons_succ]
            refine wpAnyH_take (i := 4) (v := .int .i64 (p.updates.length : Int)) rfl (by kernel_rfl) (by kernel_rfl) (by kernel_rfl) (fun _ _ _ h => h) (Or.inl ⟨by rfl, fun w hSw => ?_⟩) hC0 ?_
            · go_simp
            simp only [Act.put, List.getElem_toArray, List.getElem_cons_zero, List.getElem_cons_succ, List.setIfInBounds_toArray, List.set_cons_zero, List.set_cons_succ]
            refine wpAnyH_take (i := 8) (v := .int .i64 (p.updates.length : Int)) rfl (by kernel_rfl) (by kernel_rfl) (by kernel_rfl) (fun _ _ _ h => h) (Or.inl ⟨by rfl, fun w hSw => ?_⟩) hC0 ?_
            · go_simp
            simp only [Act.put, List.getElem_toArray, List.getElem_cons_zero, List.getElem_cons_succ, List.setIfInBounds_toArray, List.set_cons_zero, List.set_cons_succ]
            refine wpAnyH_take (i := 5) (v := .int .i64 (m : Int)) rfl (by kernel_rfl) (by kernel_rfl) (by kernel_rfl) (fun _ _ _ h => h) (Or.inl ⟨by rfl, fun w hSw => ?_⟩) hC0 ?_
            · go_simp
            simp only [Act.put, List.getElem_toArray, List.getElem_cons_zero, List.getElem_cons_succ, List.setIfInBounds_toArray, List.set_cons_zero, List.set_cons_succ]
            refine wpAnyH_take (i := 9) (v := .int .i64 (m : Int)) rfl (by kernel_rfl) (by kernel_rfl) (by kernel_rfl) (fun _ _ _ h => h) (Or.inl ⟨by rfl, fun w hSw => ?_⟩) hC0 ?_
            · go_simp
            simp only [Act.put, List.getElem_toArray, List.getElem_cons_zero, List.getElem_cons_succ, List.setIfInBounds_toArray, List.set_cons_zero, List.set_cons_succ]
            refine wpAnyH_take (i := 10) (v := .pointer (some ⟨g, m * 3, none⟩)) rfl (by kernel_rfl) (by kernel_rfl) (by kernel_rfl) (fun _ _ _ h => h) (Or.inl ⟨by rfl, fun w hSw => ?_⟩) hC0 ?_
            · go_simp
              first | done | (intro hx; exfalso; first | omega | (rw [hx] at hmlt; exact absurd hmlt (Nat.not_lt_zero _)))
            simp only [Act.put, List.getElem_toArray, List.getElem_cons_zero, List.getElem_cons_succ, List.setIfInBounds_toArray, List.set_cons_zero, List.set_cons_succ]
            refine wpAnyH_take (i := 14) (v := .pointer (some ⟨g, 0, none⟩)) rfl (by kernel_rfl) (by kernel_rfl) (by kernel_rfl) (fun _ _ _ h => h) (Or.inl ⟨by rfl, fun w hSw => ?_⟩) hC0 ?_
            · go_simp
              first | done | (intro hx; exfalso; first | omega | (rw [hx] at hmlt; exact absurd hmlt (Nat.not_lt_zero _)))
            simp only [Act.put, List.getElem_toArray, List.getElem_cons_zero, List.getElem_cons_succ, List.setIfInBounds_toArray, List.set_cons_zero, List.set_cons_succ]
            refine wpAnyH_all (rs := [11, 15]) (by kernel_rfl) (by simp) (fun j hj => ?_)
            rcases List.mem_cons.1 hj with rfl | hj
            · skip
              refine Or.inl ?_
              go_wp2_with fail
              first | refine ⟨hC0, ?_⟩ | skip
              refine wpAnyH_all (rs := [15]) (by kernel_rfl) (by simp) (fun j hj => ?_)
              obtain rfl : j = 15 := by simpa using hj
              refine Or.inl ?_
              go_wp2_with fail
              first | refine ⟨hC0, ?_⟩ | skip
              refine wpAnyH_take (i := 16) (v := .pointer (some ⟨g, 0, none⟩)) rfl (by kernel_rfl) (by kernel_rfl) (by kernel_rfl) (fun _ _ _ h => h) (Or.inl ⟨by rfl, fun w hSw => ?_⟩) hC0 ?_
              · go_simp
                first | done | (intro hx; exfalso; first | omega | (rw [hx] at hmlt; exact absurd hmlt (Nat.not_lt_zero _)))
              simp only [Act.put, List.getElem_toArray, List.getElem_cons_zero, List.getElem_cons_succ, List.setIfInBounds_toArray, List.set_cons_zero, List.set_cons_succ]
              refine wpAnyH_all (rs := [17]) (by kernel_rfl) (by simp) (fun j hj => ?_)
              obtain rfl : j = 17 := by simpa using hj
              refine Or.inl ?_
              go_wp2_with fail
              first | refine ⟨hC1, ?_⟩ | skip
              refine wpAnyH_take (i := 18) (v := .pointer (some ⟨g, m * 3, none⟩)) rfl (by kernel_rfl) (by kernel_rfl) (by kernel_rfl) (fun _ _ _ h => h) (Or.inl ⟨by rfl, fun w hSw => ?_⟩) hC1 ?_
              · go_simp
                first | done | (intro hx; exfalso; first | omega | (rw [hx] at hmlt; exact absurd hmlt (Nat.not_lt_zero _)))
              simp only [Act.put, List.getElem_toArray, List.getElem_cons_zero, List.getElem_cons_succ, List.setIfInBounds_toArray, List.set_cons_zero, List.set_cons_succ]
              refine wpAnyH_all (rs := [19]) (by kernel_rfl) (by simp) (fun j hj => ?_)
              obtain rfl : j = 19 := by simpa using hj
              refine Or.inl ?_
              go_wp2_with fail
              first | refine ⟨hC2, ?_⟩ | skip
              first | refine wpAnyH_done (by kernel_rfl) ?_ _ | refine ⟨by kernel_rfl, ?_⟩
              have HEnd := Lib.hid (show In Q (((((((x0.setCell ⟨g, 0, none⟩ (.string um.name)).setCell ⟨g, 1, none⟩ (.int .i64 um.old)).setCell ⟨g, 2, none⟩ (.int .i64 um.new)).setCell ⟨g, m * 3, none⟩ (.string u0.name)).setCell ⟨g, m * 3 + 1, none⟩ (.int .i64 u0.old)).setCell ⟨g, m * 3 + 2, none⟩ (.int .i64 u0.new))) ∧ ∃ us : List Mv, us.Perm p.updates ∧ ((((((((x0.setCell ⟨g, 0, none⟩ (.string um.name)).setCell ⟨g, 1, none⟩ (.int .i64 um.old)).setCell ⟨g, 2, none⟩ (.int .i64 um.new)).setCell ⟨g, m * 3, none⟩ (.string u0.name)).setCell ⟨g, m * 3 + 1, none⟩ (.int .i64 u0.old)).setCell ⟨g, m * 3 + 2, none⟩ (.int .i64 u0.new)))).heap[D]? = some (.cells #[.slice oa p.objects.length oc, .slice (some ⟨g, 0, none⟩) p.updates.length c, .bool p.force] 26 (0, 0)) ∧ OwnU w5.heap.size (((((((x0.setCell ⟨g, 0, none⟩ (.string um.name)).setCell ⟨g, 1, none⟩ (.int .i64 um.old)).setCell ⟨g, 2, none⟩ (.int .i64 um.new)).setCell ⟨g, m * 3, none⟩ (.string u0.name)).setCell ⟨g, m * 3 + 1, none⟩ (.int .i64 u0.old)).setCell ⟨g, m * 3 + 2, none⟩ (.int .i64 u0.new))) (.slice (some ⟨g, 0, none⟩) p.updates.length c) us from ⟨hQ8, swapM p.updates, swap_perm (by omega), HB2x.out, HO7.out⟩)
              clear hC0 hC1 hC2 hCp HB2x a00 a01 a02 b00 b01 b02 e00 e01 e02 f1 f2 hQ8 hR7 HO7
              go_wp2_with fail
              go_meet
              exact ⟨rfl, _, rfl, HEnd⟩
            · skip
              obtain rfl : j = 15 := by simpa using hj
              refine Or.inl ?_
              go_wp2_with fail
              first | refine ⟨hC0, ?_⟩ | skip
              refine wpAnyH_all (rs := [11]) (by kernel_rfl) (by simp) (fun j hj => ?_)
              obtain rfl : j = 11 := by simpa using hj
              refine Or.inl ?_
              go_wp2_with fail
              first | refine ⟨hC0, ?_⟩ | skip
              refine wpAnyH_take (i := 16) (v := .pointer (some ⟨g, 0, none⟩)) rfl (by kernel_rfl) (by kernel_rfl) (by kernel_rfl) (fun _ _ _ h => h) (Or.inl ⟨by rfl, fun w hSw => ?_⟩) hC0 ?_
              · go_simp
                first | done | (intro hx; exfalso; first | omega | (rw [hx] at hmlt; exact absurd hmlt (Nat.not_lt_zero _)))
              simp only [Act.put, List.getElem_toArray, List.getElem_cons_zero, List.getElem_cons_succ, List.setIfInBounds_toArray, List.set_cons_zero, List.set_cons_succ]
              refine wpAnyH_all (rs := [17]) (by kernel_rfl) (by simp) (fun j hj => ?_)
              obtain rfl : j = 17 := by simpa using hj
              refine Or.inl ?_
              go_wp2_with fail
              first | refine ⟨hC1, ?_⟩ | skip
              refine wpAnyH_take (i := 18) (v := .pointer (some ⟨g, m * 3, none⟩)) rfl (by kernel_rfl) (by kernel_rfl) (by kernel_rfl) (fun _ _ _ h => h) (Or.inl ⟨by rfl, fun w hSw => ?_⟩) hC1 ?_
              · go_simp
                first | done | (intro hx; exfalso; first | omega | (rw [hx] at hmlt; exact absurd hmlt (Nat.not_lt_zero _)))
              simp only [Act.put, List.getElem_toArray, List.getElem_cons_zero, List.getElem_cons_succ, List.setIfInBounds_toArray, List.set_cons_zero, List.set_cons_succ]
              refine wpAnyH_all (rs := [19]) (by kernel_rfl) (by simp) (fun j hj => ?_)
              obtain rfl : j = 19 := by simpa using hj
              refine Or.inl ?_
              go_wp2_with fail
              first | refine ⟨hC2, ?_⟩ | skip
              first | refine wpAnyH_done (by kernel_rfl) ?_ _ | refine ⟨by kernel_rfl, ?_⟩
              have HEnd := Lib.hid (show In Q (((((((x0.setCell ⟨g, 0, none⟩ (.string um.name)).setCell ⟨g, 1, none⟩ (.int .i64 um.old)).setCell ⟨g, 2, none⟩ (.int .i64 um.new)).setCell ⟨g, m * 3, none⟩ (.string u0.name)).setCell ⟨g, m * 3 + 1, none⟩ (.int .i64 u0.old)).setCell ⟨g, m * 3 + 2, none⟩ (.int .i64 u0.new))) ∧ ∃ us : List Mv, us.Perm p.updates ∧ ((((((((x0.setCell ⟨g, 0, none⟩ (.string um.name)).setCell ⟨g, 1, none⟩ (.int .i64 um.old)).setCell ⟨g, 2, none⟩ (.int .i64 um.new)).setCell ⟨g, m * 3, none⟩ (.string u0.name)).setCell ⟨g, m * 3 + 1, none⟩ (.int .i64 u0.old)).setCell ⟨g, m * 3 + 2, none⟩ (.int .i64 u0.new)))).heap[D]? = some (.cells #[.slice oa p.objects.length oc, .slice (some ⟨g, 0, none⟩) p.updates.length c, .bool p.force] 26 (0, 0)) ∧ OwnU w5.heap.size (((((((x0.setCell ⟨g, 0, none⟩ (.string um.name)).setCell ⟨g, 1, none⟩ (.int .i64 um.old)).setCell ⟨g, 2, none⟩ (.int .i64 um.new)).setCell ⟨g, m * 3, none⟩ (.string u0.name)).setCell ⟨g, m * 3 + 1, none⟩ (.int .i64 u0.old)).setCell ⟨g, m * 3 + 2, none⟩ (.int .i64 u0.new))) (.slice (some ⟨g, 0, none⟩) p.updates.length c) us from ⟨hQ8, swapM p.updates, swap_perm (by omega), HB2x.out, HO7.out⟩)
              clear hC0 hC1 hC2 hCp HB2x a00 a01 a02 b00 b01 b02 e00 e01 e02 f1 f2 hQ8 hR7 HO7
              go_wp2_with fail
              go_meet
              exact ⟨rfl, _, rfl, HEnd⟩
        case rest =>
          obtain ⟨rfl, yr, rfl, HK⟩ := hcut
          obtain ⟨hQ6, us, hpus, hb6, hO6⟩ := HK.out
          have hR7 := hRn _ _ hR5 (hQb _ hQ6)
          have HO7 := Lib.hid hO6
          clear s0 s1 s2
          have p0 := block_cell (j := 0) hb6 rfl
          have p1 := block_cell (j := 1) hb6 rfl
          have p2 := block_cell (j := 2) hb6 rfl
          clear HK hb6 hO6
          have HMv := Lib.hid (HO7.out.mvs (by rw [hpus.length_eq]; have := Hby.out; omega))
          have HOf := Lib.hid (HOq.out us _ _ _ (hRb _ hR7) HMv.out)
          have hpm := Hp.out us hpus
          rw [hpm.1, hpm.2] at HOf
          rw [Hpv.out _ hpus ht] at HOf
          clear hpm hpus
          have ey0 := y0 _ hR7
          have ey1 := y1 _ hR7
          have ey2 := y2 _ hR7
          have ey3 := y3 _ hR7
          have ey4 := y4 _ hR7
          have ey5 := y5 _ hR7
          have ey6 := y6 _ hR7
          have ez0 := z0 _ hR7
          have ez1 := z1 _ hR7
          have ez2 := z2 _ hR7
          go_wp2_with fail
          refine HOf.out.mono ?_
          rintro e w8 ⟨rfl, hb8⟩
          have HE := Lib.hid (hRb _ (hRn _ _ hR7 hb8))
          clear hb8 HOf
          go_wp2_with fail
          go_ret
          exact ⟨rfl, HE.out⟩
end Go.Proofs.YtdhoodloklgokaaGreatDoor
