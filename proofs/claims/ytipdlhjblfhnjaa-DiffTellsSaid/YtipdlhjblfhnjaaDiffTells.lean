
/- Walks: the law DiffTells. -/
import Derived.Test.YtipdlhjblfhnjaaDiffF
import Derived.Test.YtipdlhjblfhnjaaDiffE
import Derived.Deep.DeepCutAuto
namespace Go.Proofs.Ytipdlhjblfhnjaa
open Go.RowKit
set_option linter.unusedVariables false
set_option linter.unusedSimpArgs false

abbrev cRf (S : Nat → Prop) (v : Value) (l : List Rf) : Claim := ⟨fun x => RefsV S x v l, fun _ _ h hb => h.below hb⟩
abbrev cMv (S : Nat → Prop) (v : Value) (l : List Mv) : Claim := ⟨fun x => MvsV S x v l, fun _ _ h hb => h.below hb⟩
def wantL (a b : List Obj) : List Obj := if checkStore a = 0 ∧ checkStore b = 0 then rawL a b else []
theorem want_is (a b : List Obj) : storeIsB (diffL a b) (diffE a b) (diffE a b) (wantL a b) = true := by
  unfold storeIsB wantL
  by_cases h : diffE a b = 0
  · rw [if_pos h]
    have h' := h
    unfold diffE at h
    by_cases ea : checkStore a = 0
    · by_cases eb : checkStore b = 0
      · rw [if_neg (by simpa using ea), if_neg (by simpa using eb)] at h
        rw [if_pos ⟨ea, eb⟩]
        have e : diffL a b = rawL a b := by unfold diffL rawL; rw [if_pos h', if_pos h]
        rw [e, sameStore_refl]; simp
      · rw [if_neg (by simpa using ea), if_pos (by simpa using eb)] at h; exact absurd h eb
    · rw [if_pos (by simpa using ea)] at h; exact absurd h ea
  · rw [if_neg h]
    have e : diffL a b = [] := by unfold diffL; rw [if_neg h]
    rw [e, sameStore_refl]; simp

set_option maxRecDepth 100000 in
set_option maxHeartbeats 4000000 in
theorem diffTells_any (a b : List Obj) (l m : List Rf) (av bv lv mv : Value) (S S1 S2 S3 : Nat → Prop) (w : World) (ha : StoreV S w av a) (hb : StoreV S1 w bv b) (hl : RefsV S2 w lv l) (hm : RefsV S3 w mv m) :
    Calls Try.prog 3 #[av, bv, lv, mv] w fun e w' => e = .returned (.bool true) ∧ Below w.heap.size w w' := by
  have HK0 := Lib.hid (show Keep [cB w, cS S av a, cS S1 bv b, cRf S2 lv l, cRf S3 mv m] w from ⟨Below.refl _ _, ha, hb, hl, hm, trivial⟩)
  obtain ⟨aa, ac, rfl⟩ := ha.vshape
  obtain ⟨ba, bc, rfl⟩ := hb.vshape
  obtain ⟨⟨la, lc⟩, rfl⟩ := hl.shape
  obtain ⟨⟨ma, mc⟩, rfl⟩ := hm.shape
  have HdE := Lib.hid (show diffE a b = if checkStore a ≠ 0 then checkStore a else if checkStore b ≠ 0 then checkStore b else rawE a b from rfl)
  have HwL := Lib.hid (show wantL a b = if checkStore a = 0 ∧ checkStore b = 0 then rawL a b else [] from rfl)
  have Hsi := Lib.hid (want_is a b)
  clear ha hb hl hm
  go_enter Try.func3, Try.ntmps3
  go_wp2_with fail
  have hA := objects_any a b _ _ _ _ w HK0.out.2.1 HK0.out.2.2.1
  refine hA.mono ?_
  rintro e w1 ⟨v1, rfl, hv1, hb1⟩
  obtain ⟨a1, c1, rfl⟩ := hv1.vshape
  have HK1 := Lib.hid (Keep.push (c := cS (fun _ => True) (.slice a1 (diffL a b).length c1) (diffL a b)) (HK0.out.below hb1) hv1)
  clear hv1 hb1 hA HK0
  go_wp2_with fail
  have hR := drefs_any l m _ _ _ _ w1 HK1.out.2.2.2.2.1 HK1.out.2.2.2.2.2.1
  refine hR.mono ?_
  rintro e w2 ⟨v2, rfl, hv2, hb2⟩
  obtain ⟨⟨a2, c2⟩, rfl⟩ := hv2.shape
  have HK2 := Lib.hid (Keep.push (c := cMv (fun _ => True) (.slice a2 (refsL l m).length c2) (refsL l m)) (HK1.out.below hb2) hv2)
  clear hv2 hb2 hR HK1
  go_wp2_with fail
  have hC := checkStore_any a _ _ w2 HK2.out.2.2.2.1
  refine hC.mono ?_
  rintro e w3 ⟨rfl, hb3⟩
  have HK3 := Lib.hid (HK2.out.below hb3)
  clear hb3 HK2 hC
  go_upto_if 32 with fail
  go_cut [13] (fun s13 wx => s13 = .int .i64 (if checkStore a ≠ 0 then checkStore a else checkStore b) ∧ ∃ y, y = wx ∧ Hid (Keep [cMv (fun _ => True) (.slice a2 (refsL l m).length c2) (refsL l m), cS (fun _ => True) (.slice a1 (diffL a b).length c1) (diffL a b), cB w, cS S (.slice aa a.length ac) a, cS S1 (.slice ba b.length bc) b, cRf S2 (.slice la l.length lc) l, cRf S3 (.slice ma m.length mc) m] y))
  case first =>
    by_cases ea : checkStore a = 0
    · have hC := checkStore_any b _ _ w3 HK3.out.2.2.2.2.1
      rw [ea]
      go_wp2_with fail
      refine hC.mono ?_
      rintro e w4 ⟨rfl, hb4⟩
      have HK4 := Lib.hid (HK3.out.below hb4)
      clear hb4
      go_wp2_with fail
      go_meet
      exact ⟨by rw [if_neg (by simpa using ea)], _, rfl, HK4.out⟩
    · have hq : (checkStore a == 0) = false := by simpa using ea
      go_wp2_with fail
      go_meet
      exact ⟨by rw [if_pos ea], _, rfl, HK3.out⟩
  case rest =>
    obtain ⟨rfl, y4, rfl, HK4⟩ := hcut
    clear HK3
    obtain ⟨c, hc⟩ : ∃ c : Int, c = if checkStore a ≠ 0 then checkStore a else checkStore b := ⟨_, rfl⟩
    rw [← hc]
    have Hc := Lib.hid hc
    clear hc
    go_upto_if 36 with fail
    go_cut [13, 14] (fun s13 s14 wx => s13 = .int .i64 (diffE a b) ∧ ∃ y, y = wx ∧ ∃ (p : Option Addr) (q : Nat), s14 = .slice p (wantL a b).length q ∧ Hid (Keep [cS (fun _ => True) (.slice p (wantL a b).length q) (wantL a b), cMv (fun _ => True) (.slice a2 (refsL l m).length c2) (refsL l m), cS (fun _ => True) (.slice a1 (diffL a b).length c1) (diffL a b), cB w, cS S (.slice aa a.length ac) a, cS S1 (.slice ba b.length bc) b, cRf S2 (.slice la l.length lc) l, cRf S3 (.slice ma m.length mc) m] y))
    case first =>
      by_cases e0 : c = 0
      · have he : checkStore a = 0 ∧ checkStore b = 0 := by
          have := Hc.out
          rw [e0] at this
          by_cases ea : checkStore a = 0
          · rw [if_neg (by simpa using ea)] at this; exact ⟨ea, this.symm⟩
          · rw [if_pos ea] at this; exact absurd this.symm ea
        have HE := Lib.hid (show diffE a b = rawE a b by rw [HdE.out, if_neg (by simp [he.1]), if_neg (by simp [he.2])])
        have HL := Lib.hid (show wantL a b = rawL a b by rw [HwL.out, if_pos he])
        have hD := diffOf_any a b _ _ _ _ y4 HK4.out.2.2.2.1 HK4.out.2.2.2.2.1 (checkStore_rising he.2) (by have := (checkStore_zero he.1).1; omega)
        rw [← HE.out, ← HL.out] at hD
        have HD := Lib.hid hD
        subst e0
        clear he hD
        go_wp2_with fail
        refine HD.out.mono ?_
        rintro e w5 ⟨v5, rfl, hv5, hb5⟩
        obtain ⟨a5, c5, rfl⟩ := hv5.vshape
        have HK5 := Lib.hid (Keep.push (c := cS (fun _ => True) (.slice a5 (wantL a b).length c5) (wantL a b)) (HK4.out.below hb5) hv5)
        clear hv5 hb5 HD
        go_wp2_with fail
        go_meet
        exact ⟨rfl, _, rfl, a5, c5, rfl, HK5.out⟩
      · have hne : ¬ (checkStore a = 0 ∧ checkStore b = 0) := fun he => e0 (by rw [Hc.out, if_neg (by simp [he.1]), he.2])
        have HE := Lib.hid (show diffE a b = c by
          rw [HdE.out, Hc.out]
          by_cases ea : checkStore a = 0
          · have eb : checkStore b ≠ 0 := fun eb => hne ⟨ea, eb⟩
            rw [if_neg (by simpa using ea), if_pos eb, if_neg (by simpa using ea)]
          · rw [if_pos ea, if_pos ea])
        have HL := Lib.hid (show wantL a b = [] by rw [HwL.out, if_neg hne])
        have HK5 := Lib.hid (show Keep (cS (fun _ => True) (.slice none (wantL a b).length 0) (wantL a b) :: _) y4 from Keep.push HK4.out (by rw [HL.out]; exact StoreV.nil _ _ _ _ (by omega)))
        have hq : (c == 0) = false := by simpa using e0
        clear hne
        go_wp2_with fail
        go_meet
        exact ⟨by rw [HE.out], _, rfl, none, 0, by rw [HL.out]; rfl, HK5.out⟩
    case rest =>
      obtain ⟨rfl, y5, rfl, p5, q5, rfl, HK5⟩ := hcut
      clear HK4 Hc
      go_wp2_with fail
      have hL := checkLists_any l m _ _ _ _ y5 HK5.out.2.2.2.2.2.2.1 HK5.out.2.2.2.2.2.2.2.1
      refine hL.mono ?_
      rintro e w6 ⟨rfl, hb6⟩
      have HK6 := Lib.hid (HK5.out.below hb6)
      clear hb6 HK5 hL
      go_upto_if 47 with fail
      go_cut [16] (fun s16 wx => ∃ y, y = wx ∧ ∃ (p : Option Addr) (q : Nat), s16 = .slice p (refsL l m).length q ∧ Hid (Keep [cMv (fun _ => True) (.slice p (refsL l m).length q) (refsL l m), cS (fun _ => True) (.slice p5 (wantL a b).length q5) (wantL a b), cMv (fun _ => True) (.slice a2 (refsL l m).length c2) (refsL l m), cS (fun _ => True) (.slice a1 (diffL a b).length c1) (diffL a b), cB w] y))
      case first =>
        have HKs := Lib.hid (fun x (hx : Below w6.heap.size w6 x) => show Keep [cS (fun _ => True) (.slice p5 (wantL a b).length q5) (wantL a b), cMv (fun _ => True) (.slice a2 (refsL l m).length c2) (refsL l m), cS (fun _ => True) (.slice a1 (diffL a b).length c1) (diffL a b), cB w] x from
          have h := HK6.out.below hx; ⟨h.1, h.2.1, h.2.2.1, h.2.2.2.1, trivial⟩)
        by_cases e0 : listsE l m = 0
        · have h8 := lists_ok e0
          have HL := Lib.hid (show refsL l m = leadL l m by unfold refsL; rw [if_pos e0])
          have hD := leadOf_any l m _ _ _ _ w6 HK6.out.2.2.2.2.2.2.1 HK6.out.2.2.2.2.2.2.2.1 h8.1 h8.2.1
          rw [← HL.out] at hD
          have HD := Lib.hid hD
          have hq : (listsE l m == 0) = true := by simpa using e0
          clear hD h8 e0
          go_wp2_with fail
          refine HD.out.mono ?_
          rintro e w7 ⟨v7, rfl, hv7, hb7⟩
          obtain ⟨⟨a7, c7⟩, rfl⟩ := hv7.shape
          have HK7 := Lib.hid (Keep.push (c := cMv (fun _ => True) (.slice a7 (refsL l m).length c7) (refsL l m)) (HKs.out _ hb7) hv7)
          clear hv7 hb7 HD
          go_wp2_with fail
          go_meet
          exact ⟨_, rfl, a7, c7, rfl, HK7.out⟩
        · have HL := Lib.hid (show refsL l m = [] by unfold refsL; rw [if_neg e0])
          have HK7 := Lib.hid (show Keep (cMv (fun _ => True) (.slice none (refsL l m).length 0) (refsL l m) :: _) w6 from Keep.push (HKs.out _ (Below.refl _ _)) (by rw [HL.out]; exact MvsV.nil _ _ _ _ (by omega)))
          have hq : (listsE l m == 0) = false := by simpa using e0
          go_wp2_with fail
          go_meet
          exact ⟨_, rfl, none, 0, by rw [HL.out]; rfl, HK7.out⟩
      case rest =>
        obtain ⟨y7, rfl, p7, q7, rfl, HK7⟩ := hcut
        clear HK6
        go_wp2_with fail
        refine (diffBegun_any _).mono ?_
        rintro e w8 ⟨rfl, hb8⟩
        have HK8 := Lib.hid (HK7.out.below hb8)
        clear hb8 HK7
        have hS := storeIs_any (diffL a b) (wantL a b) (diffE a b) (diffE a b) _ _ _ _ w8 HK8.out.2.2.2.1 HK8.out.2.1
        rw [Hsi.out] at hS
        go_wp2_with fail
        refine hS.mono ?_
        rintro e w9 ⟨rfl, hb9⟩
        have HK9 := Lib.hid (HK8.out.below hb9)
        clear hb9 HK8 hS
        have hq : (listsE l m == listsE l m) = true := by simp
        have hU := sameUpdates_any (refsL l m) (refsL l m) _ _ _ _ w9 HK9.out.2.2.1 HK9.out.1
        rw [(sameMvs_iff _ _).2 rfl] at hU
        go_wp2_with fail
        refine hU.mono ?_
        rintro e w10 ⟨rfl, hb10⟩
        have HB := Lib.hid (below_next HK9.out.2.2.2.2.1 hb10)
        clear hb10 HK9 hU
        go_wp2_with fail
        go_ret
        exact ⟨rfl, HB.out⟩
end Go.Proofs.Ytipdlhjblfhnjaa
