
/- Walks: the law PushTells. Printed by gen_pushtells.py. -/
import Derived.Test.YtemdnkoknjmheaaGreatPushB
namespace Go.Proofs.YtemdnkoknjmheaaGreat
open Go.RowKit
set_option linter.unusedVariables false
set_option linter.unusedSimpArgs false

abbrev cR (S : Nat → Prop) (v : Value) (l : List Rf) : Claim := ⟨fun x => RefsV S x v l, fun _ _ h hb => h.below hb⟩
theorem refsAreB_same (l : List Rf) (e : Int) : refsAreB l e e l = true ↔ (e = 0 ∨ l = []) := by
  unfold refsAreB
  by_cases h : e = 0
  · simp [h, sameRefs_iff]
  · simp [h, sameRefs_iff]
theorem sameInts_refl (xs : List Int) : sameInts xs xs = true := sameInts_all rfl fun _ _ => rfl

set_option maxRecDepth 100000 in
set_option maxHeartbeats 4000000 in
theorem pushTells_any (r : Rep) (p : Psh) (l : List Obj) (sv rv ov2 uv2 ov uv lv : Value) (S S1 S2 : Nat → Prop) (w : World) (h : RepIs S w r sv rv ov2 uv2) (hp : StoreV S1 w ov p.objects ∧ MvsV S1 w uv p.updates) (hl : StoreV S2 w lv l) :
    Calls Tryz.prog 3 #[repV r sv rv ov2 uv2, pshV p ov uv, lv] w fun e w' => e = .returned (.bool true) ∧ Below w.heap.size w w' := by
  obtain ⟨ho, hu⟩ := hp
  simp only [repV, pshV]
  have h2 : (∃ a n c, ov2 = .slice a n c) ∧ ∃ a n c, uv2 = .slice a n c := ⟨StoreV.shape3 h.objs, MvsV.shape3 h.upds⟩
  have Ht := Lib.hid (fun x (hx : Below w.heap.size w x) => pushTry_any r p _ _ _ _ _ _ _ _ _ _ x (h.store.below hx) (h.refs.below hx) (ho.below hx) (hu.below hx) h2)
  have Hto := Lib.hid (fun x (hx : Below w.heap.size w x) => tryOf_any r p _ _ _ _ _ _ _ _ _ _ x (h.store.below hx) (h.refs.below hx) (ho.below hx) (hu.below hx) h2)
  have Hn := Lib.hid (fun x (hx : Below w.heap.size w x) => needs_any l p _ _ _ _ _ _ x (hl.below hx) (ho.below hx) (hu.below hx))
  have Hno := Lib.hid (fun x (hx : Below w.heap.size w x) => needsOf_any l p _ _ _ _ _ _ x (hl.below hx) (ho.below hx) (hu.below hx))
  have Hcp := Lib.hid (fun x (hx : Below w.heap.size w x) => checkPush_any p _ _ _ _ x (ho.below hx) (hu.below hx))
  have Hpc := Lib.hid (fun x (hx : Below w.heap.size w x) => pushCheck_any p _ _ _ _ x (ho.below hx) (hu.below hx))
  have Hcl := Lib.hid (fun x (hx : Below w.heap.size w x) => checkStore_any l _ _ x (hl.below hx))
  have HNE := Lib.hid (show needsE l p = if checkStore l ≠ 0 then checkStore l else checkPsh p from rfl)
  have HNL := Lib.hid (show needsL l p = if needsE l p = 0 then uniq (needG l p) else [] from rfl)
  have HW := Lib.hid (fun h1 h2 => need_want (l := l) (p := p) h1 h2)
  have Hs := Lib.hid (show storeIsB (tryL r p) (tryE r p) (tryE r p) (tryL r p) = true from (storeIsB_same _ _).2 (by
    by_cases e : tryE r p = 0
    · exact .inl e
    · exact .inr (by unfold tryL; rw [if_neg e])))
  have Hf := Lib.hid (show refsAreB (tryM r p) (tryE r p) (tryE r p) (tryM r p) = true from (refsAreB_same _ _).2 (by
    by_cases e : tryE r p = 0
    · exact .inl e
    · exact .inr (by unfold tryM; rw [if_neg e])))
  obtain ⟨sa, sc, rfl⟩ := h.store.vshape
  obtain ⟨⟨ra, rc⟩, rfl⟩ := h.refs.shape
  obtain ⟨oa, oc, rfl⟩ := ho.vshape
  obtain ⟨⟨ua, uc⟩, rfl⟩ := hu.shape
  obtain ⟨la, lc, rfl⟩ := hl.vshape
  obtain ⟨⟨oa2, on2, oc2, rfl⟩, ⟨ua2, un2, uc2, rfl⟩⟩ := h2
  obtain ⟨R, hR, hR1, hy, hz⟩ := cls_two w #[.slice sa r.store.length sc, .slice ra r.refs.length rc, .int .i64 r.gen, .int .i64 r.phase, .slice oa2 on2 oc2, .slice ua2 un2 uc2, .bool r.pend.force] #[.slice oa p.objects.length oc, .slice ua p.updates.length uc, .bool p.force] 28 26
  have HB := Lib.hid (fun x hx => (⟨hy 0 _ rfl x hx, hy 1 _ rfl x hx, hy 2 _ rfl x hx, hy 3 _ rfl x hx, hy 4 _ rfl x hx, hy 5 _ rfl x hx, hy 6 _ rfl x hx, hz 0 _ rfl x hx, hz 1 _ rfl x hx, hz 2 _ rfl x hx⟩ : _ ∧ _ ∧ _ ∧ _ ∧ _ ∧ _ ∧ _ ∧ _ ∧ _ ∧ _))
  have hRb := hR.below
  have hRn := hR.next
  clear hy hz h ho hu hl
  generalize tryL r p = TL at *
  generalize tryM r p = TM at *
  generalize tryE r p = TE at *
  generalize needsL l p = NL at *
  generalize needsE l p = NE at *
  generalize uniq (needG l p) = UG at *
  generalize wantTo l p 99 = WT at *
  generalize checkPsh p = cp at *
  generalize checkStore l = cl at *
  by_cases hP : cp = 0 <;> by_cases hQ : cl = 0
  · -- checkPsh = 0, checkStore = 0
    subst hP
    have HT0 := Lib.hid (fun x hx => show Calls Tryz.prog 6 _ x fun e w' => RetTry x w' e TL TM TE from by have := Ht.out x hx; rwa [if_pos rfl, if_pos rfl, if_pos rfl] at this)
    subst hQ
    have e1 : NE = 0 := by rw [HNE.out, if_neg (by simp)]
    rw [e1] at HNL Hn
    have e2 : NL = WT := by rw [HNL.out, if_pos rfl, HW.out rfl rfl]
    rw [e2] at Hn
    have HI := Lib.hid (sameInts_refl WT)
    clear HNE HNL HW Ht e1 e2
    have HK0 := Lib.hid (show Keep [] w from trivial)
    go_enter Tryz.func3, Tryz.ntmps3
    obtain ⟨c0, c1, c2, c3, c4, c5, c6, d0, d1, d2⟩ := HB.out _ hR1
    go_wp2_with fail
    clear c0 c1 c2 c3 c4 c5 c6 d0 d1 d2
    refine (HT0.out _ (hRb _ hR1)).mono ?_
    rintro e w1 ⟨v1, u1, rfl, hv1, hu1, hb1⟩
    obtain ⟨a1, n1, rfl⟩ := hv1.vshape
    obtain ⟨⟨p1, m1⟩, rfl⟩ := hu1.shape
    have hR2 := hRn _ _ hR1 hb1
    have HK1 := Lib.hid (show Keep [cS (fun _ => True) (.slice a1 (TL).length n1) (TL), cR (fun _ => True) (.slice p1 (TM).length m1) (TM)] w1 from ⟨hv1, hu1, trivial⟩)
    clear hv1 hu1 hb1 hR1
    obtain ⟨c0, c1, c2, c3, c4, c5, c6, d0, d1, d2⟩ := HB.out _ hR2
    go_wp2_with fail
    clear c0 c1 c2 c3 c4 c5 c6 d0 d1 d2
    refine (Hn.out _ (hRb _ hR2)).mono ?_
    rintro e w2 ⟨v2, rfl, hv2, hb2⟩
    obtain ⟨⟨a2, n2⟩, rfl⟩ := hv2.shape
    have hR3 := hRn _ _ hR2 hb2
    have HK2 := Lib.hid (Keep.push (c := cI (fun _ => True) (.slice a2 (WT).length n2) (WT)) (HK1.out.below hb2) hv2)
    clear hv2 hb2 HK1 hR2
    obtain ⟨c0, c1, c2, c3, c4, c5, c6, d0, d1, d2⟩ := HB.out _ hR3
    go_wp2_with fail
    clear c0 c1 c2 c3 c4 c5 c6 d0 d1 d2
    refine (Hcp.out _ (hRb _ hR3)).mono ?_
    rintro e w3 ⟨rfl, hb3⟩
    have hR4 := hRn _ _ hR3 hb3
    have HK3 := Lib.hid (HK2.out.below hb3)
    clear hb3 HK2 hR3
    go_wp2_with fail
    refine (Hcl.out _ (hRb _ hR4)).mono ?_
    rintro e w4 ⟨rfl, hb4⟩
    have hR5 := hRn _ _ hR4 hb4
    have HK4 := Lib.hid (HK3.out.below hb4)
    clear hb4 HK3 hR4
    obtain ⟨c0, c1, c2, c3, c4, c5, c6, d0, d1, d2⟩ := HB.out _ hR5
    go_wp2_with fail
    clear c0 c1 c2 c3 c4 c5 c6 d0 d1 d2
    refine (Hto.out _ (hRb _ hR5)).mono ?_
    rintro e w5 ⟨v5, u5, rfl, hv5, hu5, hb5⟩
    obtain ⟨a5, n5, rfl⟩ := hv5.vshape
    obtain ⟨⟨p5, m5⟩, rfl⟩ := hu5.shape
    have hR6 := hRn _ _ hR5 hb5
    have HK5 := Lib.hid (Keep.push (c := cS (fun _ => True) (.slice a5 TL.length n5) TL) (Keep.push (c := cR (fun _ => True) (.slice p5 TM.length m5) TM) (HK4.out.below hb5) hu5) hv5)
    clear hv5 hu5 hb5 hR5 HK4
    obtain ⟨c0, c1, c2, c3, c4, c5, c6, d0, d1, d2⟩ := HB.out _ hR6
    go_wp2_with fail
    clear c0 c1 c2 c3 c4 c5 c6 d0 d1 d2
    refine (Hno.out _ (hRb _ hR6)).mono ?_
    rintro e w6 ⟨v6, rfl, hv6, hb6⟩
    obtain ⟨⟨a6, n6⟩, rfl⟩ := hv6.shape
    have hR7 := hRn _ _ hR6 hb6
    have HK6 := Lib.hid (Keep.push (c := cI (fun _ => True) (.slice a6 WT.length n6) WT) (HK5.out.below hb6) hv6)
    clear hv6 hb6 hR6 HK5
    obtain ⟨c0, c1, c2, c3, c4, c5, c6, d0, d1, d2⟩ := HB.out _ hR7
    go_wp2_with fail
    clear c0 c1 c2 c3 c4 c5 c6 d0 d1 d2
    refine (pushBegun_any _).mono ?_
    rintro e w17 ⟨rfl, hb⟩
    have hR8 := hRn _ _ hR7 hb
    have HK7 := Lib.hid (HK6.out.below hb)
    clear hb hR7 HK6
    obtain ⟨c0, c1, c2, c3, c4, c5, c6, d0, d1, d2⟩ := HB.out _ hR8
    go_wp2_with fail
    clear c0 c1 c2 c3 c4 c5 c6 d0 d1 d2
    refine (Hpc.out _ (hRb _ hR8)).mono ?_
    rintro e w18 ⟨rfl, hb⟩
    have hR9 := hRn _ _ hR8 hb
    have HK8 := Lib.hid (HK7.out.below hb)
    clear hb hR8 HK7
    go_wp2_with fail
    have HS := Lib.hid (storeIs_any TL TL TE TE _ _ _ _ _ (HK8.out.2.2.2.2.1) (HK8.out.2.1))
    rw [Hs.out] at HS
    refine HS.out.mono ?_
    rintro e w19 ⟨rfl, hb⟩
    have hR10 := hRn _ _ hR9 hb
    have HK9 := Lib.hid (HK8.out.below hb)
    clear hb hR9 HK8
    clear HS
    go_wp2_with fail
    have HS := Lib.hid (refsAre_any TM TM TE TE _ _ _ _ _ (HK9.out.2.2.2.2.2.1) (HK9.out.2.2.1))
    rw [Hf.out] at HS
    refine HS.out.mono ?_
    rintro e w20 ⟨rfl, hb⟩
    have hR11 := hRn _ _ hR10 hb
    have HK10 := Lib.hid (HK9.out.below hb)
    clear hb hR10 HK9
    clear HS
    go_wp2_with fail
    have HS := Lib.hid (sameInts_any WT WT _ _ _ _ _ (HK10.out.2.2.2.1) (HK10.out.1))
    rw [HI.out] at HS
    refine HS.out.mono ?_
    rintro e w21 ⟨rfl, hb⟩
    have hR12 := hRn _ _ hR11 hb
    have HK11 := Lib.hid (HK10.out.below hb)
    clear hb hR11 HK10
    clear HS
    go_wp2_with fail
    go_ret
    exact ⟨rfl, hRb _ hR12⟩
  · -- checkPsh = 0, checkStore ≠ 0
    subst hP
    have HT0 := Lib.hid (fun x hx => show Calls Tryz.prog 6 _ x fun e w' => RetTry x w' e TL TM TE from by have := Ht.out x hx; rwa [if_pos rfl, if_pos rfl, if_pos rfl] at this)
    have qQ : (cl == 0) = false := by simpa using hQ
    have e1 : NE = cl := by rw [HNE.out, if_pos hQ]
    rw [e1] at HNL Hn
    have e2 : NL = [] := by rw [HNL.out, if_neg hQ]
    rw [e2] at Hn
    have HI := Lib.hid (sameInts_refl [])
    have q2 : (cl == cl) = true := by simp
    clear HNE HNL HW Ht e1 e2 hQ
    have HK0 := Lib.hid (show Keep [] w from trivial)
    go_enter Tryz.func3, Tryz.ntmps3
    obtain ⟨c0, c1, c2, c3, c4, c5, c6, d0, d1, d2⟩ := HB.out _ hR1
    go_wp2_with fail
    clear c0 c1 c2 c3 c4 c5 c6 d0 d1 d2
    refine (HT0.out _ (hRb _ hR1)).mono ?_
    rintro e w1 ⟨v1, u1, rfl, hv1, hu1, hb1⟩
    obtain ⟨a1, n1, rfl⟩ := hv1.vshape
    obtain ⟨⟨p1, m1⟩, rfl⟩ := hu1.shape
    have hR2 := hRn _ _ hR1 hb1
    have HK1 := Lib.hid (show Keep [cS (fun _ => True) (.slice a1 (TL).length n1) (TL), cR (fun _ => True) (.slice p1 (TM).length m1) (TM)] w1 from ⟨hv1, hu1, trivial⟩)
    clear hv1 hu1 hb1 hR1
    obtain ⟨c0, c1, c2, c3, c4, c5, c6, d0, d1, d2⟩ := HB.out _ hR2
    go_wp2_with fail
    clear c0 c1 c2 c3 c4 c5 c6 d0 d1 d2
    refine (Hn.out _ (hRb _ hR2)).mono ?_
    rintro e w2 ⟨v2, rfl, hv2, hb2⟩
    obtain ⟨⟨a2, n2⟩, rfl⟩ := hv2.shape
    have hR3 := hRn _ _ hR2 hb2
    have HK2 := Lib.hid (Keep.push (c := cI (fun _ => True) (.slice a2 ([] : List Int).length n2) ([] : List Int)) (HK1.out.below hb2) hv2)
    clear hv2 hb2 HK1 hR2
    obtain ⟨c0, c1, c2, c3, c4, c5, c6, d0, d1, d2⟩ := HB.out _ hR3
    go_wp2_with fail
    clear c0 c1 c2 c3 c4 c5 c6 d0 d1 d2
    refine (Hcp.out _ (hRb _ hR3)).mono ?_
    rintro e w3 ⟨rfl, hb3⟩
    have hR4 := hRn _ _ hR3 hb3
    have HK3 := Lib.hid (HK2.out.below hb3)
    clear hb3 HK2 hR3
    go_wp2_with fail
    refine (Hcl.out _ (hRb _ hR4)).mono ?_
    rintro e w4 ⟨rfl, hb4⟩
    have hR5 := hRn _ _ hR4 hb4
    have HK4 := Lib.hid (HK3.out.below hb4)
    clear hb4 HK3 hR4
    obtain ⟨c0, c1, c2, c3, c4, c5, c6, d0, d1, d2⟩ := HB.out _ hR5
    go_wp2_with fail
    clear c0 c1 c2 c3 c4 c5 c6 d0 d1 d2
    refine (Hto.out _ (hRb _ hR5)).mono ?_
    rintro e w5 ⟨v5, u5, rfl, hv5, hu5, hb5⟩
    obtain ⟨a5, n5, rfl⟩ := hv5.vshape
    obtain ⟨⟨p5, m5⟩, rfl⟩ := hu5.shape
    have hR6 := hRn _ _ hR5 hb5
    have HK5 := Lib.hid (Keep.push (c := cS (fun _ => True) (.slice a5 TL.length n5) TL) (Keep.push (c := cR (fun _ => True) (.slice p5 TM.length m5) TM) (HK4.out.below hb5) hu5) hv5)
    clear hv5 hu5 hb5 hR5 HK4
    obtain ⟨c0, c1, c2, c3, c4, c5, c6, d0, d1, d2⟩ := HB.out _ hR6
    go_wp2_with fail
    clear c0 c1 c2 c3 c4 c5 c6 d0 d1 d2
    refine (pushBegun_any _).mono ?_
    rintro e w16 ⟨rfl, hb⟩
    have hR7 := hRn _ _ hR6 hb
    have HK6 := Lib.hid (HK5.out.below hb)
    clear hb hR6 HK5
    obtain ⟨c0, c1, c2, c3, c4, c5, c6, d0, d1, d2⟩ := HB.out _ hR7
    go_wp2_with fail
    clear c0 c1 c2 c3 c4 c5 c6 d0 d1 d2
    refine (Hpc.out _ (hRb _ hR7)).mono ?_
    rintro e w17 ⟨rfl, hb⟩
    have hR8 := hRn _ _ hR7 hb
    have HK7 := Lib.hid (HK6.out.below hb)
    clear hb hR7 HK6
    go_wp2_with fail
    have HS := Lib.hid (storeIs_any TL TL TE TE _ _ _ _ _ (HK7.out.2.2.2.1) (HK7.out.1))
    rw [Hs.out] at HS
    refine HS.out.mono ?_
    rintro e w18 ⟨rfl, hb⟩
    have hR9 := hRn _ _ hR8 hb
    have HK8 := Lib.hid (HK7.out.below hb)
    clear hb hR8 HK7
    clear HS
    go_wp2_with fail
    have HS := Lib.hid (refsAre_any TM TM TE TE _ _ _ _ _ (HK8.out.2.2.2.2.1) (HK8.out.2.1))
    rw [Hf.out] at HS
    refine HS.out.mono ?_
    rintro e w19 ⟨rfl, hb⟩
    have hR10 := hRn _ _ hR9 hb
    have HK9 := Lib.hid (HK8.out.below hb)
    clear hb hR9 HK8
    clear HS
    go_wp2_with fail
    have HS := Lib.hid (sameInts_any [] [] _ _ _ _ _ (HK9.out.2.2.1) (IntsV.nil (fun _ => True) _ 0 none (by omega)))
    rw [HI.out] at HS
    refine HS.out.mono ?_
    rintro e w20 ⟨rfl, hb⟩
    have hR11 := hRn _ _ hR10 hb
    have HK10 := Lib.hid (HK9.out.below hb)
    clear hb hR10 HK9
    clear HS
    go_wp2_with fail
    go_ret
    exact ⟨rfl, hRb _ hR11⟩
  · -- checkPsh ≠ 0, checkStore = 0
    have qP : (cp == 0) = false := by simpa using hP
    have HT0 := Lib.hid (fun x hx => show Calls Tryz.prog 6 _ x fun e w' => RetTry x w' e [] [] cp from by have := Ht.out x hx; rwa [if_neg hP, if_neg hP, if_neg hP] at this)
    have Hs0 := Lib.hid (show storeIsB [] cp cp [] = true from (storeIsB_same _ _).2 (.inr rfl))
    have Hf0 := Lib.hid (show refsAreB [] cp cp [] = true from (refsAreB_same _ _).2 (.inr rfl))
    subst hQ
    have e1 : NE = cp := by rw [HNE.out, if_neg (by simp)]
    rw [e1] at HNL Hn
    have e2 : NL = [] := by rw [HNL.out, if_neg hP]
    rw [e2] at Hn
    have HI := Lib.hid (sameInts_refl [])
    have q2 : (cp == cp) = true := by simp
    clear HNE HNL HW Ht e1 e2 hP
    have HK0 := Lib.hid (show Keep [] w from trivial)
    go_enter Tryz.func3, Tryz.ntmps3
    obtain ⟨c0, c1, c2, c3, c4, c5, c6, d0, d1, d2⟩ := HB.out _ hR1
    go_wp2_with fail
    clear c0 c1 c2 c3 c4 c5 c6 d0 d1 d2
    refine (HT0.out _ (hRb _ hR1)).mono ?_
    rintro e w1 ⟨v1, u1, rfl, hv1, hu1, hb1⟩
    obtain ⟨a1, n1, rfl⟩ := hv1.vshape
    obtain ⟨⟨p1, m1⟩, rfl⟩ := hu1.shape
    have hR2 := hRn _ _ hR1 hb1
    have HK1 := Lib.hid (show Keep [cS (fun _ => True) (.slice a1 ([]).length n1) ([]), cR (fun _ => True) (.slice p1 ([]).length m1) ([])] w1 from ⟨hv1, hu1, trivial⟩)
    clear hv1 hu1 hb1 hR1
    obtain ⟨c0, c1, c2, c3, c4, c5, c6, d0, d1, d2⟩ := HB.out _ hR2
    go_wp2_with fail
    clear c0 c1 c2 c3 c4 c5 c6 d0 d1 d2
    refine (Hn.out _ (hRb _ hR2)).mono ?_
    rintro e w2 ⟨v2, rfl, hv2, hb2⟩
    obtain ⟨⟨a2, n2⟩, rfl⟩ := hv2.shape
    have hR3 := hRn _ _ hR2 hb2
    have HK2 := Lib.hid (Keep.push (c := cI (fun _ => True) (.slice a2 ([] : List Int).length n2) ([] : List Int)) (HK1.out.below hb2) hv2)
    clear hv2 hb2 HK1 hR2
    obtain ⟨c0, c1, c2, c3, c4, c5, c6, d0, d1, d2⟩ := HB.out _ hR3
    go_wp2_with fail
    clear c0 c1 c2 c3 c4 c5 c6 d0 d1 d2
    refine (Hcp.out _ (hRb _ hR3)).mono ?_
    rintro e w3 ⟨rfl, hb3⟩
    have hR4 := hRn _ _ hR3 hb3
    have HK3 := Lib.hid (HK2.out.below hb3)
    clear hb3 HK2 hR3
    go_wp2_with fail
    refine (Hcl.out _ (hRb _ hR4)).mono ?_
    rintro e w4 ⟨rfl, hb4⟩
    have hR5 := hRn _ _ hR4 hb4
    have HK4 := Lib.hid (HK3.out.below hb4)
    clear hb4 HK3 hR4
    obtain ⟨c0, c1, c2, c3, c4, c5, c6, d0, d1, d2⟩ := HB.out _ hR5
    go_wp2_with fail
    clear c0 c1 c2 c3 c4 c5 c6 d0 d1 d2
    refine (pushBegun_any _).mono ?_
    rintro e w15 ⟨rfl, hb⟩
    have hR6 := hRn _ _ hR5 hb
    have HK5 := Lib.hid (HK4.out.below hb)
    clear hb hR5 HK4
    obtain ⟨c0, c1, c2, c3, c4, c5, c6, d0, d1, d2⟩ := HB.out _ hR6
    go_wp2_with fail
    clear c0 c1 c2 c3 c4 c5 c6 d0 d1 d2
    refine (Hpc.out _ (hRb _ hR6)).mono ?_
    rintro e w16 ⟨rfl, hb⟩
    have hR7 := hRn _ _ hR6 hb
    have HK6 := Lib.hid (HK5.out.below hb)
    clear hb hR6 HK5
    go_wp2_with fail
    have HS := Lib.hid (storeIs_any [] [] cp cp _ _ _ _ _ (HK6.out.2.1) (StoreV.nil (fun _ => True) _ 0 none (by omega)))
    rw [Hs0.out] at HS
    refine HS.out.mono ?_
    rintro e w17 ⟨rfl, hb⟩
    have hR8 := hRn _ _ hR7 hb
    have HK7 := Lib.hid (HK6.out.below hb)
    clear hb hR7 HK6
    clear HS
    go_wp2_with fail
    have HS := Lib.hid (refsAre_any [] [] cp cp _ _ _ _ _ (HK7.out.2.2.1) (RefsV.nil (fun _ => True) _ 0 none (by omega)))
    rw [Hf0.out] at HS
    refine HS.out.mono ?_
    rintro e w18 ⟨rfl, hb⟩
    have hR9 := hRn _ _ hR8 hb
    have HK8 := Lib.hid (HK7.out.below hb)
    clear hb hR8 HK7
    clear HS
    go_wp2_with fail
    have HS := Lib.hid (sameInts_any [] [] _ _ _ _ _ (HK8.out.1) (IntsV.nil (fun _ => True) _ 0 none (by omega)))
    rw [HI.out] at HS
    refine HS.out.mono ?_
    rintro e w19 ⟨rfl, hb⟩
    have hR10 := hRn _ _ hR9 hb
    have HK9 := Lib.hid (HK8.out.below hb)
    clear hb hR9 HK8
    clear HS
    go_wp2_with fail
    go_ret
    exact ⟨rfl, hRb _ hR10⟩
  · -- checkPsh ≠ 0, checkStore ≠ 0
    have qP : (cp == 0) = false := by simpa using hP
    have HT0 := Lib.hid (fun x hx => show Calls Tryz.prog 6 _ x fun e w' => RetTry x w' e [] [] cp from by have := Ht.out x hx; rwa [if_neg hP, if_neg hP, if_neg hP] at this)
    have Hs0 := Lib.hid (show storeIsB [] cp cp [] = true from (storeIsB_same _ _).2 (.inr rfl))
    have Hf0 := Lib.hid (show refsAreB [] cp cp [] = true from (refsAreB_same _ _).2 (.inr rfl))
    have qQ : (cl == 0) = false := by simpa using hQ
    have e1 : NE = cl := by rw [HNE.out, if_pos hQ]
    rw [e1] at HNL Hn
    have e2 : NL = [] := by rw [HNL.out, if_neg hQ]
    rw [e2] at Hn
    have HI := Lib.hid (sameInts_refl [])
    have q2 : (cl == cl) = true := by simp
    have q3 : (cp == cp) = true := by simp
    clear HNE HNL HW Ht e1 e2 hP hQ
    have HK0 := Lib.hid (show Keep [] w from trivial)
    go_enter Tryz.func3, Tryz.ntmps3
    obtain ⟨c0, c1, c2, c3, c4, c5, c6, d0, d1, d2⟩ := HB.out _ hR1
    go_wp2_with fail
    clear c0 c1 c2 c3 c4 c5 c6 d0 d1 d2
    refine (HT0.out _ (hRb _ hR1)).mono ?_
    rintro e w1 ⟨v1, u1, rfl, hv1, hu1, hb1⟩
    obtain ⟨a1, n1, rfl⟩ := hv1.vshape
    obtain ⟨⟨p1, m1⟩, rfl⟩ := hu1.shape
    have hR2 := hRn _ _ hR1 hb1
    have HK1 := Lib.hid (show Keep [cS (fun _ => True) (.slice a1 ([]).length n1) ([]), cR (fun _ => True) (.slice p1 ([]).length m1) ([])] w1 from ⟨hv1, hu1, trivial⟩)
    clear hv1 hu1 hb1 hR1
    obtain ⟨c0, c1, c2, c3, c4, c5, c6, d0, d1, d2⟩ := HB.out _ hR2
    go_wp2_with fail
    clear c0 c1 c2 c3 c4 c5 c6 d0 d1 d2
    refine (Hn.out _ (hRb _ hR2)).mono ?_
    rintro e w2 ⟨v2, rfl, hv2, hb2⟩
    obtain ⟨⟨a2, n2⟩, rfl⟩ := hv2.shape
    have hR3 := hRn _ _ hR2 hb2
    have HK2 := Lib.hid (Keep.push (c := cI (fun _ => True) (.slice a2 ([] : List Int).length n2) ([] : List Int)) (HK1.out.below hb2) hv2)
    clear hv2 hb2 HK1 hR2
    obtain ⟨c0, c1, c2, c3, c4, c5, c6, d0, d1, d2⟩ := HB.out _ hR3
    go_wp2_with fail
    clear c0 c1 c2 c3 c4 c5 c6 d0 d1 d2
    refine (Hcp.out _ (hRb _ hR3)).mono ?_
    rintro e w3 ⟨rfl, hb3⟩
    have hR4 := hRn _ _ hR3 hb3
    have HK3 := Lib.hid (HK2.out.below hb3)
    clear hb3 HK2 hR3
    go_wp2_with fail
    refine (Hcl.out _ (hRb _ hR4)).mono ?_
    rintro e w4 ⟨rfl, hb4⟩
    have hR5 := hRn _ _ hR4 hb4
    have HK4 := Lib.hid (HK3.out.below hb4)
    clear hb4 HK3 hR4
    obtain ⟨c0, c1, c2, c3, c4, c5, c6, d0, d1, d2⟩ := HB.out _ hR5
    go_wp2_with fail
    clear c0 c1 c2 c3 c4 c5 c6 d0 d1 d2
    refine (pushBegun_any _).mono ?_
    rintro e w15 ⟨rfl, hb⟩
    have hR6 := hRn _ _ hR5 hb
    have HK5 := Lib.hid (HK4.out.below hb)
    clear hb hR5 HK4
    obtain ⟨c0, c1, c2, c3, c4, c5, c6, d0, d1, d2⟩ := HB.out _ hR6
    go_wp2_with fail
    clear c0 c1 c2 c3 c4 c5 c6 d0 d1 d2
    refine (Hpc.out _ (hRb _ hR6)).mono ?_
    rintro e w16 ⟨rfl, hb⟩
    have hR7 := hRn _ _ hR6 hb
    have HK6 := Lib.hid (HK5.out.below hb)
    clear hb hR6 HK5
    go_wp2_with fail
    have HS := Lib.hid (storeIs_any [] [] cp cp _ _ _ _ _ (HK6.out.2.1) (StoreV.nil (fun _ => True) _ 0 none (by omega)))
    rw [Hs0.out] at HS
    refine HS.out.mono ?_
    rintro e w17 ⟨rfl, hb⟩
    have hR8 := hRn _ _ hR7 hb
    have HK7 := Lib.hid (HK6.out.below hb)
    clear hb hR7 HK6
    clear HS
    go_wp2_with fail
    have HS := Lib.hid (refsAre_any [] [] cp cp _ _ _ _ _ (HK7.out.2.2.1) (RefsV.nil (fun _ => True) _ 0 none (by omega)))
    rw [Hf0.out] at HS
    refine HS.out.mono ?_
    rintro e w18 ⟨rfl, hb⟩
    have hR9 := hRn _ _ hR8 hb
    have HK8 := Lib.hid (HK7.out.below hb)
    clear hb hR8 HK7
    clear HS
    go_wp2_with fail
    have HS := Lib.hid (sameInts_any [] [] _ _ _ _ _ (HK8.out.1) (IntsV.nil (fun _ => True) _ 0 none (by omega)))
    rw [HI.out] at HS
    refine HS.out.mono ?_
    rintro e w19 ⟨rfl, hb⟩
    have hR10 := hRn _ _ hR9 hb
    have HK9 := Lib.hid (HK8.out.below hb)
    clear hb hR9 HK8
    clear HS
    go_wp2_with fail
    go_ret
    exact ⟨rfl, hRb _ hR10⟩
end Go.Proofs.YtemdnkoknjmheaaGreat
