
/- VoteD: VoteD, VoteE. -/
import Derived.Test.YtdhoodloklgokaaGreatDoorVoteQ
import Derived.Test.YtdhoodloklgokaaGreatDoorVoteA
import Derived.Lib.AppendIntMem
/- Walks: vote.Raw; the reference's VoteOf. -/
namespace Go.Proofs.YtdhoodloklgokaaGreatDoor
open Go.RowKit
set_option linter.unusedVariables false
set_option linter.unusedSimpArgs false

/-- the library's table of powers of ten is there -/
def Tab (w : World) : Prop := Lib.TabIs Tryz.prog w "internal/strconv.uint64pow10" .u64 Lib.pow10Tab
theorem Tab.below {w w' : World} (h : Tab w) (hb : Below w.heap.size w w') : Tab w' := Lib.tabBelow_of_tabIs h w' hb
theorem itoa_gen (n : Int) (h0 : 0 ≤ n) (h1 : n ≤ 999) (w : World) (h : Tab w) : Calls Tryz.prog 142 #[.int .i64 n] w fun e w' => e = .returned (.string (decB n)) ∧ Below w.heap.size w w' := by
  refine (Tryz.strconv_Itoa n (by omega) (by omega) w h).mono ?_
  rintro e w' ⟨rfl, k, os, rfl⟩
  have hi : Lib.itoa n = Lib.decDigits n.toNat := by unfold Lib.itoa; rw [if_neg (by omega)]
  rw [hi]
  exact ⟨rfl, below_regrown w (w.drewN k).drawn os⟩
theorem itoa_few (n : Int) (h : Digit n) (w : World) : Calls Tryz.prog 142 #[.int .i64 n] w fun e w' => e = .returned (.string (decB n)) ∧ Below w.heap.size w w' := by
  obtain ⟨k, rfl⟩ : ∃ k : Nat, n = (k : Int) := ⟨n.toNat, by have := h.1; omega⟩
  refine (Tryz.strconv_Itoa_small k (by have := h.2; omega) w).mono ?_
  rintro e w' ⟨rfl, rfl⟩
  exact ⟨rfl, Below.refl _ _⟩
theorem dec_short {n : Int} (h0 : 0 ≤ n) (h1 : n ≤ 999) : (decB n).size ≤ 20 := by
  unfold decB
  show (Lib.decDigits n.toNat).toArray.size ≤ 20
  have : (Lib.decDigits n.toNat).length ≤ 20 := by
    rw [Lib.decDigits_length]
    unfold Lib.nDigits
    split
    · omega
    · unfold Lib.nDigits
      split
      · omega
      · unfold Lib.nDigits
        split
        · omega
        · omega
  simpa using this
theorem text_few {l : List Mv} (h : MvsOk l) : (textL l).size ≤ 1000 := by
  have := text_size h l.length (Nat.le_refl _)
  have h4 := h.many
  show (textTo l l.length).1.size ≤ 1000
  omega

set_option maxRecDepth 100000 in
set_option maxHeartbeats 4000000 in
theorem voteRaw_any (r : Rep) (p : Psh) (sv rv ov uv ov2 uv2 : Value) (S S1 S2 S3 : Nat → Prop) (w : World) (hs : StoreV S w sv r.store) (hr : RefsV S1 w rv r.refs) (ho : StoreV S2 w ov p.objects) (hu : MvsV S3 w uv p.updates)
    (h2 : (∃ a n c, ov2 = .slice a n c) ∧ ∃ a n c, uv2 = .slice a n c) (hp : checkPsh p = 0) (g0 : 0 ≤ r.gen) (g1 : r.gen ≤ 999) (ht : Tab w) :
    Calls Tryz.prog 120 #[.agg #[sv, rv, .int .i64 r.gen, .int .i64 r.phase, ov2, uv2, .bool r.pend.force], .agg #[ov, uv, .bool p.force]] w
      fun e w' => e = .returned (.string (voteR r p)) ∧ Below w.heap.size w w' := by
  have Hr := Lib.hid (fun x (hx : Below w.heap.size w x) => pushRaw_any r p _ _ _ _ _ _ _ _ _ _ x (hs.below hx) (hr.below hx) (ho.below hx) (hu.below hx) (checkPsh_zero hp).2.2 h2)
  have hok := mvs_ok.1 (checkPsh_zero hp).2.2
  have HI := Lib.hid (fun x (hx : Below w.heap.size w x) => itoa_gen r.gen g0 g1 x (ht.below hx))
  have HF := Lib.hid (fun (hd : Digit (tryE r p)) x => itoa_few _ hd x)
  have HL := Lib.hid (fun x (hx : Below w.heap.size w x) => line_any p.updates _ _ x (hu.below hx) hok)
  have Hdg := Lib.hid (dig_try r p)
  have n1 : (decB r.gen).size ≤ 20 := dec_short g0 g1
  have n2 : (decB (tryE r p)).size ≤ 20 := dec_short (dig_try r p).1 (by have := (dig_try r p).2; omega)
  have n3 : (textL p.updates).size ≤ 1000 := text_few hok
  clear hok
  obtain ⟨sa, sc, rfl⟩ := hs.vshape
  obtain ⟨⟨ra, rc⟩, rfl⟩ := hr.shape
  obtain ⟨oa, oc, rfl⟩ := ho.vshape
  obtain ⟨⟨ua, uc⟩, rfl⟩ := hu.shape
  obtain ⟨⟨oa2, on2, oc2, rfl⟩, ⟨ua2, un2, uc2, rfl⟩⟩ := h2
  obtain ⟨R, hR, hR1, hy, hz⟩ := cls_two w #[.slice sa r.store.length sc, .slice ra r.refs.length rc, .int .i64 r.gen, .int .i64 r.phase, .slice oa2 on2 oc2, .slice ua2 un2 uc2, .bool r.pend.force] #[.slice oa p.objects.length oc, .slice ua p.updates.length uc, .bool p.force] 28 26
  have y0 := hy 0 _ rfl
  have y1 := hy 1 _ rfl
  have y2 := hy 2 _ rfl
  have y3 := hy 3 _ rfl
  have y4 := hy 4 _ rfl
  have y5 := hy 5 _ rfl
  have y6 := hy 6 _ rfl
  have z0 := hz 0 _ rfl
  have z1 := hz 1 _ rfl
  have z2 := hz 2 _ rfl
  have hRb := hR.below
  have hRn := hR.next
  have hRg := cls_grown hR
  clear hy hz hs hr ho hu hp
  have a0 := y0 _ hR1
  have a1 := y1 _ hR1
  have a2 := y2 _ hR1
  have a3 := y3 _ hR1
  have a4 := y4 _ hR1
  have a5 := y5 _ hR1
  have a6 := y6 _ hR1
  have b0 := z0 _ hR1
  have b1 := z1 _ hR1
  have b2 := z2 _ hR1
  have HV := Lib.hid (show voteR r p = if tryE r p ≠ 0 then noB ++ decB (tryE r p) else yesSp ++ decB r.gen ++ spB ++ textL p.updates from rfl)
  by_cases he : tryE r p = 0
  case neg =>
    have hq : (tryE r p != 0) = true := by simpa using he
    rw [HV.out, if_pos he]
    have HF2 := Lib.hid (HF.out Hdg.out)
    have m1 : ¬ 9223372036854775807 < 3 + (decB (tryE r p)).size := by omega
    clear HV HF HI HL Hdg he
    generalize decB (tryE r p) = ds at *
    go_enter Tryz.func120, Tryz.ntmps120
    go_wp2_with fail
    refine (Hr.out _ (hRb _ hR1)).mono ?_
    rintro e w4 ⟨v4, u4, rfl, hv4, hu4, hb4⟩
    obtain ⟨a4', c4, rfl⟩ := hv4.vshape
    obtain ⟨⟨p4, d4⟩, rfl⟩ := hu4.shape
    have hR2 := hRn _ _ hR1 hb4
    clear hv4 hu4 hb4
    go_wp2_with fail
    refine (HF2.out _).mono ?_
    rintro e w5 ⟨rfl, hb5⟩
    have hR5 := hRn _ _ hR2 hb5
    have HB := Lib.hid (hRb _ hR5)
    go_wp2_with fail
    go_ret
    exact ⟨rfl, HB.out⟩
  case pos =>
    rw [HV.out, if_neg (by simpa using he)]
    rw [he] at Hr
    have HL2 := Lib.hid HL.out
    have m1 : ¬ 9223372036854775807 < 4 + (decB r.gen).size := by omega
    have m2 : ¬ 9223372036854775807 < 4 + (decB r.gen).size + 1 := by omega
    have m3 : ¬ 9223372036854775807 < 4 + (decB r.gen).size + 1 + (textL p.updates).size := by omega
    clear HV HF Hdg HL he
    generalize decB r.gen = ds at *
    generalize textL p.updates = tx at *
    go_enter Tryz.func120, Tryz.ntmps120
    go_wp2_with fail
    refine (Hr.out _ (hRb _ hR1)).mono ?_
    rintro e w4 ⟨v4, u4, rfl, hv4, hu4, hb4⟩
    obtain ⟨a4', c4, rfl⟩ := hv4.vshape
    obtain ⟨⟨p4, d4⟩, rfl⟩ := hu4.shape
    have hR2 := hRn _ _ hR1 hb4
    clear hv4 hu4 hb4 a0 a1 a2 a3 a4 a5 a6 b0 b1 b2
    go_wp2_with fail
    refine wp_region_quiet_below (by kernel_rfl) (by kernel_rfl) ?_
    repeat (first | go_big_quiet_skip | quiet_step (first | exact Calls.regrown_of (HL2.out _ (hRb _ (hRg _ _ _ hR2))) | exact Calls.regrown_of (HI.out _ (hRb _ (hRg _ _ _ hR2)))))
    refine wpQuiet_nil ?_
    intro _ hw'
    obtain ⟨⟨dq, osq⟩, hw''⟩ := hw'
    subst hw''
    have hR5 := hRg _ dq osq hR2
    generalize Go.Sort.grow (redrawn _ dq) osq = x5 at *
    have HB := Lib.hid (hRb _ hR5)
    go_wp2_with fail
    go_ret
    exact ⟨rfl, HB.out⟩

set_option maxRecDepth 100000 in
set_option maxHeartbeats 4000000 in
theorem voteOf_any (r : Rep) (p : Psh) (sv rv ov uv ov2 uv2 : Value) (S S1 S2 S3 : Nat → Prop) (w : World) (hs : StoreV S w sv r.store) (hr : RefsV S1 w rv r.refs) (ho : StoreV S2 w ov p.objects) (hu : MvsV S3 w uv p.updates)
    (h2 : (∃ a n c, ov2 = .slice a n c) ∧ ∃ a n c, uv2 = .slice a n c) (hp : checkPsh p = 0) (g0 : 0 ≤ r.gen) (g1 : r.gen ≤ 999) :
    Calls Tryz.prog 48 #[.agg #[sv, rv, .int .i64 r.gen, .int .i64 r.phase, ov2, uv2, .bool r.pend.force], .agg #[ov, uv, .bool p.force]] w
      fun e w' => e = .returned (.string (voteR r p)) ∧ Below w.heap.size w w' := by
  have Hr := Lib.hid (fun x (hx : Below w.heap.size w x) => tryOf_any r p _ _ _ _ _ _ _ _ _ _ x (hs.below hx) (hr.below hx) (ho.below hx) (hu.below hx)  h2)
  have hok := mvs_ok.1 (checkPsh_zero hp).2.2
  have HI := Lib.hid (fun x (hx : Below w.heap.size w x) => digits_any r.gen g0 (by omega) x)
  have HF := Lib.hid (fun (hd : Digit (tryE r p)) x => digits_any _ hd.1 (by have := hd.2; omega) x)
  have HL := Lib.hid (fun x (hx : Below w.heap.size w x) => textOf_any p.updates _ _ x (hu.below hx) hok)
  have Hdg := Lib.hid (dig_try r p)
  have n1 : (decB r.gen).size ≤ 20 := dec_short g0 g1
  have n2 : (decB (tryE r p)).size ≤ 20 := dec_short (dig_try r p).1 (by have := (dig_try r p).2; omega)
  have n3 : (textL p.updates).size ≤ 1000 := text_few hok
  clear hok
  obtain ⟨sa, sc, rfl⟩ := hs.vshape
  obtain ⟨⟨ra, rc⟩, rfl⟩ := hr.shape
  obtain ⟨oa, oc, rfl⟩ := ho.vshape
  obtain ⟨⟨ua, uc⟩, rfl⟩ := hu.shape
  obtain ⟨⟨oa2, on2, oc2, rfl⟩, ⟨ua2, un2, uc2, rfl⟩⟩ := h2
  obtain ⟨R, hR, hR1, hy, hz⟩ := cls_two w #[.slice sa r.store.length sc, .slice ra r.refs.length rc, .int .i64 r.gen, .int .i64 r.phase, .slice oa2 on2 oc2, .slice ua2 un2 uc2, .bool r.pend.force] #[.slice oa p.objects.length oc, .slice ua p.updates.length uc, .bool p.force] 28 26
  have y0 := hy 0 _ rfl
  have y1 := hy 1 _ rfl
  have y2 := hy 2 _ rfl
  have y3 := hy 3 _ rfl
  have y4 := hy 4 _ rfl
  have y5 := hy 5 _ rfl
  have y6 := hy 6 _ rfl
  have z0 := hz 0 _ rfl
  have z1 := hz 1 _ rfl
  have z2 := hz 2 _ rfl
  have hRb := hR.below
  have hRn := hR.next
  have hRg := cls_grown hR
  clear hy hz hs hr ho hu hp
  have a0 := y0 _ hR1
  have a1 := y1 _ hR1
  have a2 := y2 _ hR1
  have a3 := y3 _ hR1
  have a4 := y4 _ hR1
  have a5 := y5 _ hR1
  have a6 := y6 _ hR1
  have b0 := z0 _ hR1
  have b1 := z1 _ hR1
  have b2 := z2 _ hR1
  have HV := Lib.hid (show voteR r p = if tryE r p ≠ 0 then noB ++ decB (tryE r p) else yesSp ++ decB r.gen ++ spB ++ textL p.updates from rfl)
  by_cases he : tryE r p = 0
  case neg =>
    have hq : (tryE r p != 0) = true := by simpa using he
    rw [HV.out, if_pos he]
    have HF2 := Lib.hid (HF.out Hdg.out)
    have m1 : ¬ 9223372036854775807 < 3 + (decB (tryE r p)).size := by omega
    clear HV HF HI HL Hdg he
    generalize decB (tryE r p) = ds at *
    go_enter Tryz.func48, Tryz.ntmps48
    go_wp2_with fail
    refine (Hr.out _ (hRb _ hR1)).mono ?_
    rintro e w4 ⟨v4, u4, rfl, hv4, hu4, hb4⟩
    obtain ⟨a4', c4, rfl⟩ := hv4.vshape
    obtain ⟨⟨p4, d4⟩, rfl⟩ := hu4.shape
    have hR2 := hRn _ _ hR1 hb4
    clear hv4 hu4 hb4
    go_wp2_with fail
    refine (HF2.out _).mono ?_
    rintro e w5 ⟨rfl, rfl⟩
    have hR5 := hR2
    have HB := Lib.hid (hRb _ hR5)
    go_wp2_with fail
    go_ret
    exact ⟨rfl, HB.out⟩
  case pos =>
    rw [HV.out, if_neg (by simpa using he)]
    rw [he] at Hr
    have HL2 := Lib.hid HL.out
    have HI2 := Lib.hid (fun x => (digits_any r.gen g0 (by omega) x).mono (R' := fun e w' => e = .returned (.string (decB r.gen)) ∧ Below x.heap.size x w') (by rintro e w' ⟨rfl, rfl⟩; exact ⟨rfl, Below.refl _ _⟩))
    have m1 : ¬ 9223372036854775807 < 4 + (decB r.gen).size := by omega
    have m2 : ¬ 9223372036854775807 < 4 + (decB r.gen).size + 1 := by omega
    have m3 : ¬ 9223372036854775807 < 4 + (decB r.gen).size + 1 + (textL p.updates).size := by omega
    clear HV HF Hdg HL he
    generalize decB r.gen = ds at *
    generalize textL p.updates = tx at *
    go_enter Tryz.func48, Tryz.ntmps48
    go_wp2_with fail
    refine (Hr.out _ (hRb _ hR1)).mono ?_
    rintro e w4 ⟨v4, u4, rfl, hv4, hu4, hb4⟩
    obtain ⟨a4', c4, rfl⟩ := hv4.vshape
    obtain ⟨⟨p4, d4⟩, rfl⟩ := hu4.shape
    have hR2 := hRn _ _ hR1 hb4
    clear hv4 hu4 hb4 a0 a1 a2 a3 a4 a5 a6 b0 b1 b2
    go_wp2_with fail
    refine wp_region_quiet_below (by kernel_rfl) (by kernel_rfl) ?_
    repeat (first | go_big_quiet_skip | quiet_step (first | exact Calls.regrown_of (HL2.out _ (hRb _ (hRg _ _ _ hR2))) | exact Calls.regrown_of (HI2.out _)))
    refine wpQuiet_nil ?_
    intro _ hw'
    obtain ⟨⟨dq, osq⟩, hw''⟩ := hw'
    subst hw''
    have hR5 := hRg _ dq osq hR2
    generalize Go.Sort.grow (redrawn _ dq) osq = x5 at *
    have HB := Lib.hid (hRb _ hR5)
    go_wp2_with fail
    go_ret
    exact ⟨rfl, HB.out⟩
end Go.Proofs.YtdhoodloklgokaaGreatDoor

/- Walks: vote.Of. -/
namespace Go.Proofs.YtdhoodloklgokaaGreatDoor
open Go.RowKit
set_option linter.unusedVariables false
set_option linter.unusedSimpArgs false

/-- what vote.Of tells -/
def ofE (r : Rep) (p : Psh) : Int := if checkPsh p ≠ 0 then checkPsh p else if r.gen < 0 ∨ 999 < r.gen then 3 else 0
def ofS (r : Rep) (p : Psh) : ByteArray := if ofE r p = 0 then voteR r p else ByteArray.empty

set_option maxRecDepth 100000 in
set_option maxHeartbeats 4000000 in
theorem of_any (r : Rep) (p : Psh) (sv rv ov uv ov2 uv2 : Value) (S S1 S2 S3 : Nat → Prop) (w : World) (hs : StoreV S w sv r.store) (hr : RefsV S1 w rv r.refs) (ho : StoreV S2 w ov p.objects) (hu : MvsV S3 w uv p.updates)
    (h2 : (∃ a n c, ov2 = .slice a n c) ∧ ∃ a n c, uv2 = .slice a n c) (ht : Tab w) :
    Calls Tryz.prog 41 #[.agg #[sv, rv, .int .i64 r.gen, .int .i64 r.phase, ov2, uv2, .bool r.pend.force], .agg #[ov, uv, .bool p.force]] w
      fun e w' => e = .returned (.tuple #[.string (ofS r p), .int .i64 (ofE r p)]) ∧ Below w.heap.size w w' := by
  have Hc := Lib.hid (fun x (hx : Below w.heap.size w x) => pushCheck_any p _ _ _ _ x (ho.below hx) (hu.below hx))
  have Hr := Lib.hid (fun hp g0 g1 x (hx : Below w.heap.size w x) => voteRaw_any r p _ _ _ _ _ _ _ _ _ _ x (hs.below hx) (hr.below hx) (ho.below hx) (hu.below hx) h2 hp g0 g1 (ht.below hx))
  obtain ⟨sa, sc, rfl⟩ := hs.vshape
  obtain ⟨⟨ra, rc⟩, rfl⟩ := hr.shape
  obtain ⟨oa, oc, rfl⟩ := ho.vshape
  obtain ⟨⟨ua, uc⟩, rfl⟩ := hu.shape
  obtain ⟨⟨oa2, on2, oc2, rfl⟩, ⟨ua2, un2, uc2, rfl⟩⟩ := h2
  obtain ⟨R, hR, hR1, hy, hz⟩ := cls_two w #[.slice sa r.store.length sc, .slice ra r.refs.length rc, .int .i64 r.gen, .int .i64 r.phase, .slice oa2 on2 oc2, .slice ua2 un2 uc2, .bool r.pend.force] #[.slice oa p.objects.length oc, .slice ua p.updates.length uc, .bool p.force] 28 26
  have y0 := hy 0 _ rfl
  have y1 := hy 1 _ rfl
  have y2 := hy 2 _ rfl
  have y3 := hy 3 _ rfl
  have y4 := hy 4 _ rfl
  have y5 := hy 5 _ rfl
  have y6 := hy 6 _ rfl
  have z0 := hz 0 _ rfl
  have z1 := hz 1 _ rfl
  have z2 := hz 2 _ rfl
  have hRb := hR.below
  have hRn := hR.next
  have hRg := cls_grown hR
  clear hy hz hs hr ho hu ht
  have b0 := z0 _ hR1
  have b1 := z1 _ hR1
  have b2 := z2 _ hR1
  by_cases hp : checkPsh p = 0
  case neg =>
    have he : ofE r p = checkPsh p := by unfold ofE; rw [if_pos hp]
    have HV := Lib.hid (show ofS r p = ByteArray.empty by unfold ofS; rw [he, if_neg hp])
    rw [HV.out, he]
    have hq : (checkPsh p != 0) = true := by simpa using hp
    have hq2 : (checkPsh p == 0) = false := by simpa using hp
    clear hp he Hr
    generalize checkPsh p = E at *
    clear HV
    go_enter Tryz.func41, Tryz.ntmps41
    go_wp2_with fail
    refine (Hc.out _ (hRb _ hR1)).mono ?_
    rintro e w2 ⟨rfl, hb2⟩
    have hR2 := hRn _ _ hR1 hb2
    have HB := Lib.hid (hRb _ hR2)
    clear hb2 b0 b1 b2
    have a0 := y0 _ hR2
    have a1 := y1 _ hR2
    have a2 := y2 _ hR2
    have a3 := y3 _ hR2
    have a4 := y4 _ hR2
    have a5 := y5 _ hR2
    have a6 := y6 _ hR2
    have c0 := z0 _ hR2
    have c1 := z1 _ hR2
    have c2 := z2 _ hR2
    go_wp2_with fail
    go_ret2
    exact ⟨rfl, HB.out⟩
  case pos =>
   rw [hp] at Hc
   by_cases hg : r.gen < 0
   case pos =>
    have he : ofE r p = 3 := by unfold ofE; rw [if_neg (by simpa using hp), if_pos (.inl hg)]
    have HV := Lib.hid (show ofS r p = ByteArray.empty by unfold ofS; rw [he]; rfl)
    rw [HV.out, he]
    have hq : decide (r.gen < 0) = true := by simpa using hg
    clear hp he Hr
    clear HV
    go_enter Tryz.func41, Tryz.ntmps41
    go_wp2_with fail
    refine (Hc.out _ (hRb _ hR1)).mono ?_
    rintro e w2 ⟨rfl, hb2⟩
    have hR2 := hRn _ _ hR1 hb2
    have HB := Lib.hid (hRb _ hR2)
    clear hb2 b0 b1 b2
    have a0 := y0 _ hR2
    have a1 := y1 _ hR2
    have a2 := y2 _ hR2
    have a3 := y3 _ hR2
    have a4 := y4 _ hR2
    have a5 := y5 _ hR2
    have a6 := y6 _ hR2
    have c0 := z0 _ hR2
    have c1 := z1 _ hR2
    have c2 := z2 _ hR2
    go_wp2_with fail
    go_ret2
    exact ⟨rfl, HB.out⟩
   case neg =>
   by_cases hg2 : 999 < r.gen
   case pos =>
    have he : ofE r p = 3 := by unfold ofE; rw [if_neg (by simpa using hp), if_pos (.inr hg2)]
    have HV := Lib.hid (show ofS r p = ByteArray.empty by unfold ofS; rw [he]; rfl)
    rw [HV.out, he]
    have hq : decide (r.gen < 0) = false := by simpa using hg
    have hq2 : decide (999 < r.gen) = true := by simpa using hg2
    clear hp he Hr
    clear HV
    go_enter Tryz.func41, Tryz.ntmps41
    go_wp2_with fail
    refine (Hc.out _ (hRb _ hR1)).mono ?_
    rintro e w2 ⟨rfl, hb2⟩
    have hR2 := hRn _ _ hR1 hb2
    have HB := Lib.hid (hRb _ hR2)
    clear hb2 b0 b1 b2
    have a0 := y0 _ hR2
    have a1 := y1 _ hR2
    have a2 := y2 _ hR2
    have a3 := y3 _ hR2
    have a4 := y4 _ hR2
    have a5 := y5 _ hR2
    have a6 := y6 _ hR2
    have c0 := z0 _ hR2
    have c1 := z1 _ hR2
    have c2 := z2 _ hR2
    go_wp2_with fail
    go_ret2
    exact ⟨rfl, HB.out⟩
   case neg =>
    have he : ofE r p = 0 := by unfold ofE; rw [if_neg (by simpa using hp), if_neg (by omega)]
    have HV := Lib.hid (show ofS r p = voteR r p by unfold ofS; rw [he, if_pos rfl])
    rw [HV.out, he]
    have hq : decide (r.gen < 0) = false := by simpa using hg
    have hq2 : decide (999 < r.gen) = false := by simpa using hg2
    have Hr2 := Lib.hid (Hr.out hp (by omega) (by omega))
    clear hp he Hr
    clear HV
    go_enter Tryz.func41, Tryz.ntmps41
    go_wp2_with fail
    refine (Hc.out _ (hRb _ hR1)).mono ?_
    rintro e w2 ⟨rfl, hb2⟩
    have hR2 := hRn _ _ hR1 hb2
    have HB := Lib.hid (hRb _ hR2)
    clear hb2 b0 b1 b2
    have a0 := y0 _ hR2
    have a1 := y1 _ hR2
    have a2 := y2 _ hR2
    have a3 := y3 _ hR2
    have a4 := y4 _ hR2
    have a5 := y5 _ hR2
    have a6 := y6 _ hR2
    have c0 := z0 _ hR2
    have c1 := z1 _ hR2
    have c2 := z2 _ hR2
    go_wp2_with fail
    refine (Hr2.out _ (hRb _ hR2)).mono ?_
    rintro e w5 ⟨rfl, hb5⟩
    have HB5 := Lib.hid (hRb _ (hRn _ _ hR2 hb5))
    clear hb5
    go_wp2_with fail
    go_ret2
    exact ⟨rfl, HB5.out⟩
end Go.Proofs.YtdhoodloklgokaaGreatDoor
