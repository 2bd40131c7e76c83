
/- Walks: the law PushTwice. -/
import Derived.Test.YtemdnkoknjmheaaGreatPushTells
import Derived.Test.YtemdnkoknjmheaaGreatPushP
namespace Go.Proofs.YtemdnkoknjmheaaGreat
open Go.RowKit
set_option linter.unusedVariables false
set_option linter.unusedSimpArgs false

theorem tryW_any (r : Rep) (p : Psh) (sv rv ov uv ov2 uv2 : Value) (S S1 S2 S3 : Nat → Prop) (w : World) (hs : StoreV S w sv r.store) (hr : RefsV S1 w rv r.refs) (ho : StoreV S2 w ov p.objects) (hu : MvsV S3 w uv p.updates)
    (h2 : (∃ a n c, ov2 = .slice a n c) ∧ ∃ a n c, uv2 = .slice a n c) :
    Calls Tryz.prog 6 #[.agg #[sv, rv, .int .i64 r.gen, .int .i64 r.phase, ov2, uv2, .bool r.pend.force], .agg #[ov, uv, .bool p.force]] w
      fun e w' => RetTry w w' e (tryWL r p) (tryWM r p) (tryWE r p) := pushTry_any r p sv rv ov uv ov2 uv2 S S1 S2 S3 w hs hr ho hu h2

set_option maxRecDepth 100000 in
set_option maxHeartbeats 4000000 in
theorem pushTwice_any (r : Rep) (p : Psh) (sv rv ov2 uv2 ov uv : Value) (S S1 : Nat → Prop) (w : World) (h : RepIs S w r sv rv ov2 uv2) (hp : StoreV S1 w ov p.objects ∧ MvsV S1 w uv p.updates) :
    Calls Tryz.prog 4 #[repV r sv rv ov2 uv2, pshV p ov uv] w fun e w' => e = .returned (.bool true) ∧ Below w.heap.size w w' := by
  obtain ⟨ho, hu⟩ := hp
  simp only [repV, pshV]
  have h2 : (∃ a n c, ov2 = .slice a n c) ∧ ∃ a n c, uv2 = .slice a n c := ⟨StoreV.shape3 h.objs, MvsV.shape3 h.upds⟩
  have Ht := Lib.hid (fun x (hx : Below w.heap.size w x) => tryW_any r p _ _ _ _ _ _ _ _ _ _ x (h.store.below hx) (h.refs.below hx) (ho.below hx) (hu.below hx) h2)
  have Ht1 := Lib.hid (fun L x v S9 (hx : Below w.heap.size w x) (hv : StoreV S9 x v L) => tryW_any ⟨L, r.refs, 0, 0, psh0⟩ ⟨[], p.updates, p.force⟩ v _ (.slice none 0 0) _ (.slice none 0 0) (.slice none 0 0) _ _ _ _ x hv (h.refs.below hx) (StoreV.nil (fun _ => True) _ 0 none (by omega)) (hu.below hx) ⟨⟨_, _, _, rfl⟩, ⟨_, _, _, rfl⟩⟩)
  have Ht2 := Lib.hid (fun L M x v u S8 S9 (hx : Below w.heap.size w x) (hv : StoreV S8 x v L) (hu9 : RefsV S9 x u M) => tryW_any ⟨L, M, 0, 0, psh0⟩ p v u _ _ (.slice none 0 0) (.slice none 0 0) _ _ _ _ x hv hu9 (ho.below hx) (hu.below hx) ⟨⟨_, _, _, rfl⟩, ⟨_, _, _, rfl⟩⟩)
  have Hbad := Lib.hid (tryW_bad (r := r) (p := p))
  have Hok := Lib.hid (tryW_ok (r := r) (p := p))
  obtain ⟨sa, sc, rfl⟩ := h.store.vshape
  obtain ⟨⟨ra, rc⟩, rfl⟩ := h.refs.shape
  obtain ⟨oa, oc, rfl⟩ := ho.vshape
  obtain ⟨ua, un, uc, HU, rfl, u1, u2, u8, u4⟩ := hu.open
  obtain ⟨⟨oa2, on2, oc2, rfl⟩, ⟨ua2, un2, uc2, rfl⟩⟩ := h2
  obtain ⟨R, hR, hR1, hy, hz⟩ := cls_two w #[.slice sa r.store.length sc, .slice ra r.refs.length rc, .int .i64 r.gen, .int .i64 r.phase, .slice oa2 on2 oc2, .slice ua2 un2 uc2, .bool r.pend.force] #[.slice oa p.objects.length oc, .slice ua un uc, .bool p.force] 28 26
  have HB := Lib.hid (fun x hx => (⟨hy 0 _ rfl x hx, hy 1 _ rfl x hx, hy 2 _ rfl x hx, hy 3 _ rfl x hx, hy 4 _ rfl x hx, hy 5 _ rfl x hx, hy 6 _ rfl x hx, hz 0 _ rfl x hx, hz 1 _ rfl x hx, hz 2 _ rfl x hx⟩ : _ ∧ _ ∧ _ ∧ _ ∧ _ ∧ _ ∧ _ ∧ _ ∧ _ ∧ _))
  have hRb := hR.below
  have hRn := hR.next
  have hun : un ≤ 9223372036854775807 := by omega
  have HSL := Lib.hid (fun xs => show sameStore xs xs = true from (sameStore_iff xs xs).2 rfl)
  have HSR := Lib.hid (fun xs => show sameRefs xs xs = true from (sameRefs_iff xs xs).2 rfl)
  clear hy hz h ho hu
  generalize hL : tryWL r p = TL at *
  generalize hM : tryWM r p = TM at *
  generalize hE : tryWE r p = TE at *
  clear hL hM hE
  have q0 : (TE != TE) = false := by simp
  have Hq := Lib.hid q0
  go_enter Tryz.func4, Tryz.ntmps4
  obtain ⟨c0, c1, c2, c3, c4, c5, c6, d0, d1, d2⟩ := HB.out _ hR1
  go_wp2_with fail
  clear c0 c1 c2 c3 c4 c5 c6 d0 d1 d2
  refine (Ht.out _ (hRb _ hR1)).mono ?_
  rintro e w1 ⟨v1, m1, rfl, hv1, hm1, hb1⟩
  obtain ⟨a1, n1, rfl⟩ := hv1.vshape
  obtain ⟨⟨p1, k1⟩, rfl⟩ := hm1.shape
  have hR2 := hRn _ _ hR1 hb1
  have HK1 := Lib.hid (show Keep [cS (fun _ => True) (.slice a1 TL.length n1) TL, cR (fun _ => True) (.slice p1 TM.length k1) TM] w1 from ⟨hv1, hm1, trivial⟩)
  clear hv1 hm1 hb1 hR1
  obtain ⟨c0, c1, c2, c3, c4, c5, c6, d0, d1, d2⟩ := HB.out _ hR2
  go_wp2_with fail
  clear c0 c1 c2 c3 c4 c5 c6 d0 d1 d2
  refine (Ht.out _ (hRb _ hR2)).mono ?_
  rintro e w2 ⟨v2, m2, rfl, hv2, hm2, hb2⟩
  obtain ⟨a2, n2, rfl⟩ := hv2.vshape
  obtain ⟨⟨p2, k2⟩, rfl⟩ := hm2.shape
  have hR3 := hRn _ _ hR2 hb2
  have HK2 := Lib.hid (Keep.push (c := cS (fun _ => True) (.slice a2 TL.length n2) TL) (Keep.push (c := cR (fun _ => True) (.slice p2 TM.length k2) TM) (HK1.out.below hb2) hm2) hv2)
  clear hv2 hm2 hb2 hR2 HK1
  go_wp2_with fail
  refine (pushBegun_any _).mono ?_
  rintro e w3 ⟨rfl, hb3⟩
  have hR4 := hRn _ _ hR3 hb3
  have HK3 := Lib.hid (HK2.out.below hb3)
  clear hb3 hR3 HK2
  go_wp2_with fail
  have HS := Lib.hid (sameStore_any TL TL _ _ _ _ _ HK3.out.2.2.1 HK3.out.1)
  rw [HSL.out] at HS
  refine HS.out.mono ?_
  rintro e w4 ⟨rfl, hb4⟩
  have hR5 := hRn _ _ hR4 hb4
  have HK4 := Lib.hid (HK3.out.below hb4)
  clear hb4 hR4 HK3 HS
  go_wp2_with fail
  have HS := Lib.hid (sameRefs_any TM TM _ _ _ _ _ HK4.out.2.2.2.1 HK4.out.2.1)
  rw [HSR.out] at HS
  refine HS.out.mono ?_
  rintro e w5 ⟨rfl, hb5⟩
  have hR6 := hRn _ _ hR5 hb5
  have HK5 := Lib.hid (HK4.out.below hb5)
  clear hb5 hR5 HK4 HS
  by_cases hte : TE = 0
  case neg =>
    obtain ⟨e1, e2⟩ := Hbad.out hte
    have q1 : (TE != 0) = true := by simpa using hte
    subst e1; subst e2
    clear Hbad Hok hte
    go_wp2_with fail
    go_ret
    exact ⟨rfl, hRb _ hR6⟩
  case pos =>
    subst hte
    obtain ⟨hcp, hok⟩ := Hok.out rfl
    have HT1 := Lib.hid (try_less hok)
    have HT2 := Lib.hid (fun hm => try_twice hok hm)
    have HTw := Lib.hid (show movesB p.updates = true → tryWE ⟨TL, TM, 0, 0, psh0⟩ p = 4 from fun hm => by unfold tryWE; rw [if_pos hcp]; exact HT2.out hm)
    have HTl := Lib.hid (tryW_of HT1.out.1 HT1.out.2)
    clear Hbad Hok HT1 HT2 hcp hok q0
    obtain ⟨C, hC, hC1, _⟩ := cls_plain w5
    have hCb := hC.below
    have hCn := hC.next
    have hCg := cls_grown hC
    have HCR := Lib.hid (fun x (hx : In C x) => hRn _ _ hR6 (hCb _ hx))
    clear hR6
    go_wp2_with fail
    go_loopw [11, 12] (fun s11 s12 wr => ∃ i : Nat, i ≤ un ∧ s12 = .int .i64 i ∧ s11 = .bool (movesTo p.updates i) ∧ In C wr) (fun _ s12 _ => un - (intOf s12).toNat)
    case atStart => exact ⟨0, by omega, rfl, by unfold movesTo movesB; rfl, hC1⟩
    case round =>
      obtain ⟨i, hi, rfl, rfl, hCw⟩ := hrel
      obtain ⟨c0, c1, c2, c3, c4, c5, c6, d0, d1, d2⟩ := HB.out _ (HCR.out _ hCw)
      by_cases hlt : i < un
      · obtain ⟨b, off, rfl, hb, g0, g1, g2⟩ := u4 (by omega)
        have z1 := fun x (hx : In C x) => (HB.out _ (HCR.out _ hx)).2.2.2.2.2.2.2.2.1
        have x1 := fun x (hx : In C x) => g1 i x hlt (hRb _ (HCR.out _ hx))
        have x2 := fun x (hx : In C x) => g2 i x hlt (hRb _ (HCR.out _ hx))
        have Hnx := Lib.hid (movesTo_next (us := p.updates) (i := i) (by have := HU.out; omega))
        have hi1 : (0 : Int) ≤ (i : Int) := by omega
        have hi2 : (i : Int) < (un : Int) := by omega
        clear g0 g1 g2 u4
        generalize (mv p.updates i).old = old at *
        generalize (mv p.updates i).new = new at *
        have Hi := Lib.hid (And.intro hlt hi1)
        cases hmo : movesTo p.updates i
        · rw [hmo] at Hnx
          go_wp2_with fail
          refine wp_region_quiet_below (by kernel_rfl) (by kernel_rfl) ?_
          repeat (first | go_big_quiet_skip | quiet_step (fail))
          refine wpQuiet_nil ?_
          intro _ hw'
          obtain ⟨⟨dq, osq⟩, hw''⟩ := hw'
          subst hw''
          have hC2 := hCg _ dq osq hCw
          generalize Go.Sort.grow (redrawn _ dq) osq = x3 at *
          clear hCw z1 x1 x2 c0 c1 c2 c3 c4 c5 c6 d0 d1 d2
          go_wp2_with fail
          go_roundw
          case rel => exact ⟨i + 1, by omega, by go_num, by rw [Hnx.out]; rfl, hC2⟩
          case measure => simp [intOf]; omega
        · rw [hmo] at Hnx
          go_wp2_with fail
          refine wp_region_quiet_below (by kernel_rfl) (by kernel_rfl) ?_
          repeat (first | go_big_quiet_skip | quiet_step (fail))
          refine wpQuiet_nil ?_
          intro _ hw'
          obtain ⟨⟨dq, osq⟩, hw''⟩ := hw'
          subst hw''
          have hC2 := hCg _ dq osq hCw
          generalize Go.Sort.grow (redrawn _ dq) osq = x3 at *
          clear hCw z1 x1 x2 c0 c1 c2 c3 c4 c5 c6 d0 d1 d2
          go_wp2_with fail
          go_roundw
          case rel => exact ⟨i + 1, by omega, by go_num, by rw [Hnx.out]; rfl, hC2⟩
          case measure => simp [intOf]; omega
      · obtain rfl : i = un := by omega
        have Hall := Lib.hid (movesTo_all p.updates)
        rw [← HU.out] at Hall
        have HKa := Lib.hid (HK5.out.below (hCb _ hCw))
        have hRw := HCR.out _ hCw
        have hT := Ht1.out TL _ _ _ (hRb _ hRw) HKa.out.2.2.1
        rw [HTl.out.1, HTl.out.2.1, HTl.out.2.2] at hT
        have HT := Lib.hid hT
        generalize movesTo p.updates i = mo at *
        clear hT HK5 HCR hCw hCb hCn hCg hC1 hC u4
        go_wp2_with fail
        refine HT.out.mono ?_
        rintro e w6 ⟨v6, m6, rfl, hv6, hm6, hb6⟩
        obtain ⟨a6, n6, rfl⟩ := hv6.vshape
        obtain ⟨⟨p6, k6⟩, rfl⟩ := hm6.shape
        have hR7 := hRn _ _ hRw hb6
        have HK6 := Lib.hid (Keep.push (c := cS (fun _ => True) (.slice a6 TL.length n6) TL) (Keep.push (c := cR (fun _ => True) (.slice p6 TM.length k6) TM) (HKa.out.below hb6) hm6) hv6)
        clear hv6 hm6 hb6 hRw HKa HT c0 c1 c2 c3 c4 c5 c6 d0 d1 d2
        have HT := Lib.hid (Ht2.out TL TM _ _ _ _ _ (hRb _ hR7) HK6.out.2.2.2.2.1 HK6.out.2.2.2.2.2.1)
        generalize tryWE ⟨TL, TM, 0, 0, psh0⟩ p = E2 at *
        generalize tryWL ⟨TL, TM, 0, 0, psh0⟩ p = L2 at *
        generalize tryWM ⟨TL, TM, 0, 0, psh0⟩ p = M2 at *
        obtain ⟨c0, c1, c2, c3, c4, c5, c6, d0, d1, d2⟩ := HB.out _ hR7
        go_wp2_with fail
        refine HT.out.mono ?_
        rintro e w7 ⟨v7, m7, rfl, hv7, hm7, hb7⟩
        obtain ⟨a7, n7, rfl⟩ := hv7.vshape
        obtain ⟨⟨p7, k7⟩, rfl⟩ := hm7.shape
        have hR8 := hRn _ _ hR7 hb7
        have HK7 := Lib.hid (HK6.out.below hb7)
        clear hv7 hm7 hb7 hR7 HK6 HT c0 c1 c2 c3 c4 c5 c6 d0 d1 d2
        go_wp2_with fail
        have HS := Lib.hid (sameStore_any TL TL _ _ _ _ _ HK7.out.1 HK7.out.2.2.2.2.1)
        rw [HSL.out] at HS
        refine HS.out.mono ?_
        rintro e w8 ⟨rfl, hb8⟩
        have hR9 := hRn _ _ hR8 hb8
        have HK8 := Lib.hid (HK7.out.below hb8)
        clear hb8 hR8 HK7 HS
        go_wp2_with fail
        have HS := Lib.hid (sameRefs_any TM TM _ _ _ _ _ HK8.out.2.1 HK8.out.2.2.2.2.2.1)
        rw [HSR.out] at HS
        refine HS.out.mono ?_
        rintro e w9 ⟨rfl, hb9⟩
        have hR10 := hRn _ _ hR9 hb9
        clear hb9 hR9 HK8 HS
        cases mo
        · go_wp2_with fail
          go_ret
          exact ⟨rfl, hRb _ hR10⟩
        · have e2 := HTw.out Hall.out.symm
          subst e2
          go_wp2_with fail
          go_ret
          exact ⟨rfl, hRb _ hR10⟩
end Go.Proofs.YtemdnkoknjmheaaGreat
