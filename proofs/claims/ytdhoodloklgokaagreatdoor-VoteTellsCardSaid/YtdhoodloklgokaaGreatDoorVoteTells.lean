
/- Walks: the law VoteTells. -/
import Derived.Test.YtdhoodloklgokaaGreatDoorVoteF
namespace Go.Proofs.YtdhoodloklgokaaGreatDoor
open Go.RowKit
set_option linter.unusedVariables false
set_option linter.unusedSimpArgs false

set_option maxRecDepth 100000 in
set_option maxHeartbeats 8000000 in
theorem voteTells_any (r : Rep) (p : Psh) (l : List ByteArray) (sv rv ov2 uv2 ov uv lv : Value) (S S1 S2 : Nat → Prop) (w : World) (h : RepIs S w r sv rv ov2 uv2) (hp : StoreV S1 w ov p.objects ∧ MvsV S1 w uv p.updates) (hl : StrsV S2 w lv l) (ht : Tab w) :
    Calls Tryz.prog 4 #[repV r sv rv ov2 uv2, pshV p ov uv, lv] w fun e w' => e = .returned (.bool true) ∧ Below w.heap.size w w' := by
  have h2 := And.intro (StoreV.shape3 h.objs) (MvsV.shape3 h.upds)
  have hs := h.store
  have hr := h.refs
  obtain ⟨ho, hu⟩ := hp
  clear h
  have HO := Lib.hid (fun x (hx : Below w.heap.size w x) => of_any r p _ _ _ _ _ _ _ _ _ _ x (hs.below hx) (hr.below hx) (ho.below hx) (hu.below hx) h2 (ht.below hx))
  have HT := Lib.hid (fun x (hx : Below w.heap.size w x) => tally_any l _ _ x (hl.below hx))
  have HC := Lib.hid (fun x (hx : Below w.heap.size w x) => checkPush_any p _ _ _ _ x (ho.below hx) (hu.below hx))
  have HV := Lib.hid (fun hp g0 g1 x (hx : Below w.heap.size w x) => voteOf_any r p _ _ _ _ _ _ _ _ _ _ x (hs.below hx) (hr.below hx) (ho.below hx) (hu.below hx) h2 hp g0 g1)
  have HF := Lib.hid (fun x (hx : Below w.heap.size w x) => tallyOf_any l _ _ x (hl.below hx))
  have HB := Lib.hid (fun x (hx : Below w.heap.size w x) => voteBegun_any x (ht.below hx))
  rw [tally_same l] at HT
  unfold repV pshV
  obtain ⟨sa, sc, rfl⟩ := hs.vshape
  obtain ⟨⟨ra, rc⟩, rfl⟩ := hr.shape
  obtain ⟨oa, oc, rfl⟩ := ho.vshape
  obtain ⟨⟨ua, uc⟩, rfl⟩ := hu.shape
  obtain ⟨⟨la, lc⟩, rfl⟩ := hl.shape
  obtain ⟨⟨oa2, on2, oc2, rfl⟩, ⟨ua2, un2, uc2, rfl⟩⟩ := h2
  obtain ⟨R, hR, hR1, hy, hz⟩ := cls_two w #[.slice sa r.store.length sc, .slice ra r.refs.length rc, .int .i64 r.gen, .int .i64 r.phase, .slice oa2 on2 oc2, .slice ua2 un2 uc2, .bool r.pend.force] #[.slice oa p.objects.length oc, .slice ua p.updates.length uc, .bool p.force] 28 26
  have y0 := hy 0 _ rfl
  have y1 := hy 1 _ rfl
  have y2 := hy 2 _ rfl
  have y3 := hy 3 _ rfl
  have y4 := hy 4 _ rfl
  have y5 := hy 5 _ rfl
  have y6 := hy 6 _ rfl
  have z0 := hz 0 _ rfl
  have z1 := hz 1 _ rfl
  have z2 := hz 2 _ rfl
  have hRb := hR.below
  have hRn := hR.next
  clear hy hz hs hr ho hu ht hl
  generalize (tallyR l).1 = T at *
  generalize (tallyR l).2 = K at *
  have b0 := z0 _ hR1
  have b1 := z1 _ hR1
  have b2 := z2 _ hR1
  have a0 := y0 _ hR1
  have a1 := y1 _ hR1
  have a2 := y2 _ hR1
  have a3 := y3 _ hR1
  have a4 := y4 _ hR1
  have a5 := y5 _ hR1
  have a6 := y6 _ hR1
  by_cases hp : checkPsh p = 0
  case neg =>
    have he : ofE r p = checkPsh p := by unfold ofE; rw [if_pos hp]
    have hv : ofS r p = ⟨#[]⟩ := by unfold ofS; rw [he, if_neg hp]; rfl
    rw [he, hv] at HO
    have hq : (checkPsh p != 0) = true := by simpa using hp
    have hq2 : (checkPsh p == 0) = false := by simpa using hp
    clear hp he hv HV
    generalize checkPsh p = E at *
    go_enter Tryz.func4, Tryz.ntmps4
    go_wp2_with fail
    refine (HO.out _ (hRb _ hR1)).mono ?_
    rintro e w2 ⟨rfl, hb2⟩
    have hR2 := hRn _ _ hR1 hb2
    clear hb2 a0 a1 a2 a3 a4 a5 a6 b0 b1 b2
    go_wp2_with fail
    refine (HT.out _ (hRb _ hR2)).mono ?_
    rintro e w3 ⟨rfl, hb3⟩
    have hR3 := hRn _ _ hR2 hb3
    have cz0 := z0 _ hR3
    have cz1 := z1 _ hR3
    have cz2 := z2 _ hR3
    have cy0 := y0 _ hR3
    have cy1 := y1 _ hR3
    have cy2 := y2 _ hR3
    have cy3 := y3 _ hR3
    have cy4 := y4 _ hR3
    have cy5 := y5 _ hR3
    have cy6 := y6 _ hR3
    clear hb3
    go_wp2_with fail
    refine (HC.out _ (hRb _ hR3)).mono ?_
    rintro e w4 ⟨rfl, hb4⟩
    have hR4 := hRn _ _ hR3 hb4
    have dz0 := z0 _ hR4
    have dz1 := z1 _ hR4
    have dz2 := z2 _ hR4
    have dy0 := y0 _ hR4
    have dy1 := y1 _ hR4
    have dy2 := y2 _ hR4
    have dy3 := y3 _ hR4
    have dy4 := y4 _ hR4
    have dy5 := y5 _ hR4
    have dy6 := y6 _ hR4
    clear hb4 cz0 cz1 cz2 cy0 cy1 cy2 cy3 cy4 cy5 cy6
    go_wp2_with fail
    refine (HF.out _ (hRb _ hR4)).mono ?_
    rintro e w6 ⟨rfl, hb6⟩
    have hR6 := hRn _ _ hR4 hb6
    clear hb6
    go_wp2_with fail
    refine (HB.out _ (hRb _ hR6)).mono ?_
    rintro e w7 ⟨rfl, hb7⟩
    have HE := Lib.hid (hRb _ (hRn _ _ hR6 hb7))
    clear hb7
    have q1 : (T.toList == T.toList) = true := by simp
    have q2 : (K == K) = true := by simp
    go_wp2_with fail
    go_ret
    exact ⟨rfl, HE.out⟩
  case pos =>
   rw [hp] at HC
   by_cases hg : r.gen < 0
   case pos =>
    have he : ofE r p = 3 := by unfold ofE; rw [if_neg (by simpa using hp), if_pos (.inl hg)]
    have hv : ofS r p = ⟨#[]⟩ := by unfold ofS; rw [he]; rfl
    rw [he, hv] at HO
    have hq : decide (r.gen < 0) = true := by simpa using hg
    clear hp he hv HV
    go_enter Tryz.func4, Tryz.ntmps4
    go_wp2_with fail
    refine (HO.out _ (hRb _ hR1)).mono ?_
    rintro e w2 ⟨rfl, hb2⟩
    have hR2 := hRn _ _ hR1 hb2
    clear hb2 a0 a1 a2 a3 a4 a5 a6 b0 b1 b2
    go_wp2_with fail
    refine (HT.out _ (hRb _ hR2)).mono ?_
    rintro e w3 ⟨rfl, hb3⟩
    have hR3 := hRn _ _ hR2 hb3
    have cz0 := z0 _ hR3
    have cz1 := z1 _ hR3
    have cz2 := z2 _ hR3
    have cy0 := y0 _ hR3
    have cy1 := y1 _ hR3
    have cy2 := y2 _ hR3
    have cy3 := y3 _ hR3
    have cy4 := y4 _ hR3
    have cy5 := y5 _ hR3
    have cy6 := y6 _ hR3
    clear hb3
    go_wp2_with fail
    refine (HC.out _ (hRb _ hR3)).mono ?_
    rintro e w4 ⟨rfl, hb4⟩
    have hR4 := hRn _ _ hR3 hb4
    have dz0 := z0 _ hR4
    have dz1 := z1 _ hR4
    have dz2 := z2 _ hR4
    have dy0 := y0 _ hR4
    have dy1 := y1 _ hR4
    have dy2 := y2 _ hR4
    have dy3 := y3 _ hR4
    have dy4 := y4 _ hR4
    have dy5 := y5 _ hR4
    have dy6 := y6 _ hR4
    clear hb4 cz0 cz1 cz2 cy0 cy1 cy2 cy3 cy4 cy5 cy6
    go_wp2_with fail
    refine (HF.out _ (hRb _ hR4)).mono ?_
    rintro e w6 ⟨rfl, hb6⟩
    have hR6 := hRn _ _ hR4 hb6
    clear hb6
    go_wp2_with fail
    refine (HB.out _ (hRb _ hR6)).mono ?_
    rintro e w7 ⟨rfl, hb7⟩
    have HE := Lib.hid (hRb _ (hRn _ _ hR6 hb7))
    clear hb7
    have q1 : (T.toList == T.toList) = true := by simp
    have q2 : (K == K) = true := by simp
    go_wp2_with fail
    go_ret
    exact ⟨rfl, HE.out⟩
   case neg =>
   by_cases hg2 : 999 < r.gen
   case pos =>
    have he : ofE r p = 3 := by unfold ofE; rw [if_neg (by simpa using hp), if_pos (.inr hg2)]
    have hv : ofS r p = ⟨#[]⟩ := by unfold ofS; rw [he]; rfl
    rw [he, hv] at HO
    have hq : decide (r.gen < 0) = false := by simpa using hg
    have hq2 : decide (999 < r.gen) = true := by simpa using hg2
    clear hp he hv HV
    go_enter Tryz.func4, Tryz.ntmps4
    go_wp2_with fail
    refine (HO.out _ (hRb _ hR1)).mono ?_
    rintro e w2 ⟨rfl, hb2⟩
    have hR2 := hRn _ _ hR1 hb2
    clear hb2 a0 a1 a2 a3 a4 a5 a6 b0 b1 b2
    go_wp2_with fail
    refine (HT.out _ (hRb _ hR2)).mono ?_
    rintro e w3 ⟨rfl, hb3⟩
    have hR3 := hRn _ _ hR2 hb3
    have cz0 := z0 _ hR3
    have cz1 := z1 _ hR3
    have cz2 := z2 _ hR3
    have cy0 := y0 _ hR3
    have cy1 := y1 _ hR3
    have cy2 := y2 _ hR3
    have cy3 := y3 _ hR3
    have cy4 := y4 _ hR3
    have cy5 := y5 _ hR3
    have cy6 := y6 _ hR3
    clear hb3
    go_wp2_with fail
    refine (HC.out _ (hRb _ hR3)).mono ?_
    rintro e w4 ⟨rfl, hb4⟩
    have hR4 := hRn _ _ hR3 hb4
    have dz0 := z0 _ hR4
    have dz1 := z1 _ hR4
    have dz2 := z2 _ hR4
    have dy0 := y0 _ hR4
    have dy1 := y1 _ hR4
    have dy2 := y2 _ hR4
    have dy3 := y3 _ hR4
    have dy4 := y4 _ hR4
    have dy5 := y5 _ hR4
    have dy6 := y6 _ hR4
    clear hb4 cz0 cz1 cz2 cy0 cy1 cy2 cy3 cy4 cy5 cy6
    go_wp2_with fail
    refine (HF.out _ (hRb _ hR4)).mono ?_
    rintro e w6 ⟨rfl, hb6⟩
    have hR6 := hRn _ _ hR4 hb6
    clear hb6
    go_wp2_with fail
    refine (HB.out _ (hRb _ hR6)).mono ?_
    rintro e w7 ⟨rfl, hb7⟩
    have HE := Lib.hid (hRb _ (hRn _ _ hR6 hb7))
    clear hb7
    have q1 : (T.toList == T.toList) = true := by simp
    have q2 : (K == K) = true := by simp
    go_wp2_with fail
    go_ret
    exact ⟨rfl, HE.out⟩
   case neg =>
    have he : ofE r p = 0 := by unfold ofE; rw [if_neg (by simpa using hp), if_neg (by omega)]
    have hv : ofS r p = voteR r p := by unfold ofS; rw [he, if_pos rfl]
    rw [he, hv] at HO
    have hq : decide (r.gen < 0) = false := by simpa using hg
    have hq2 : decide (999 < r.gen) = false := by simpa using hg2
    have HV2 := Lib.hid (HV.out hp (by omega) (by omega))
    clear hp he hv HV
    generalize voteR r p = V at *
    have q0 : (V.toList == V.toList) = true := by simp
    go_enter Tryz.func4, Tryz.ntmps4
    go_wp2_with fail
    refine (HO.out _ (hRb _ hR1)).mono ?_
    rintro e w2 ⟨rfl, hb2⟩
    have hR2 := hRn _ _ hR1 hb2
    clear hb2 a0 a1 a2 a3 a4 a5 a6 b0 b1 b2
    go_wp2_with fail
    refine (HT.out _ (hRb _ hR2)).mono ?_
    rintro e w3 ⟨rfl, hb3⟩
    have hR3 := hRn _ _ hR2 hb3
    have cz0 := z0 _ hR3
    have cz1 := z1 _ hR3
    have cz2 := z2 _ hR3
    have cy0 := y0 _ hR3
    have cy1 := y1 _ hR3
    have cy2 := y2 _ hR3
    have cy3 := y3 _ hR3
    have cy4 := y4 _ hR3
    have cy5 := y5 _ hR3
    have cy6 := y6 _ hR3
    clear hb3
    go_wp2_with fail
    refine (HC.out _ (hRb _ hR3)).mono ?_
    rintro e w4 ⟨rfl, hb4⟩
    have hR4 := hRn _ _ hR3 hb4
    have dz0 := z0 _ hR4
    have dz1 := z1 _ hR4
    have dz2 := z2 _ hR4
    have dy0 := y0 _ hR4
    have dy1 := y1 _ hR4
    have dy2 := y2 _ hR4
    have dy3 := y3 _ hR4
    have dy4 := y4 _ hR4
    have dy5 := y5 _ hR4
    have dy6 := y6 _ hR4
    clear hb4 cz0 cz1 cz2 cy0 cy1 cy2 cy3 cy4 cy5 cy6
    go_wp2_with fail
    refine (HV2.out _ (hRb _ hR4)).mono ?_
    rintro e w5 ⟨rfl, hb5⟩
    have hR5 := hRn _ _ hR4 hb5
    clear hb5
    go_wp2_with fail
    refine (HF.out _ (hRb _ hR5)).mono ?_
    rintro e w6 ⟨rfl, hb6⟩
    have hR6 := hRn _ _ hR5 hb6
    clear hb6
    go_wp2_with fail
    refine (HB.out _ (hRb _ hR6)).mono ?_
    rintro e w7 ⟨rfl, hb7⟩
    have HE := Lib.hid (hRb _ (hRn _ _ hR6 hb7))
    clear hb7
    have q1 : (T.toList == T.toList) = true := by simp
    have q2 : (K == K) = true := by simp
    go_wp2_with fail
    go_ret
    exact ⟨rfl, HE.out⟩
end Go.Proofs.YtdhoodloklgokaaGreatDoor
