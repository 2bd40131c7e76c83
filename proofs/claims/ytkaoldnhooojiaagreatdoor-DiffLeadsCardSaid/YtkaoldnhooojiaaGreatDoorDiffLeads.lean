
/- Walks: the law DiffLeads. -/
import Derived.Test.YtkaoldnhooojiaaGreatDoorUpdateTells
import Derived.Test.YtkaoldnhooojiaaGreatDoorLeadP
import Derived.Test.YtkaoldnhooojiaaGreatDoorDiffF
namespace Go.Proofs.YtkaoldnhooojiaaGreatDoor
open Go.RowKit
set_option linter.unusedVariables false
set_option linter.unusedSimpArgs false

theorem lists_self {l m : List Rf} (h : listsE l m = 0) : listsE l l = 0 := by
  unfold listsE at h ⊢
  split at h
  · cases h
  · rename_i h8
    rw [if_neg (by omega)]
    split at h
    · rename_i h1; exact absurd h h1
    · rename_i h1
      rw [if_neg h1]
      split at h
      · rename_i h2; exact absurd h h2
      · split at h
        · rename_i h3; rw [if_neg h1, if_pos ⟨h3.1, h3.1⟩]
        · cases h

set_option maxRecDepth 100000 in
set_option maxHeartbeats 8000000 in
theorem diffLeads_any (l m : List Rf) (objs : List Obj) (lv mv ov : Value) (S S2 S3 : Nat → Prop) (w : World) (h : RefsV S w lv l) (hm : RefsV S2 w mv m) (ho : StoreV S3 w ov objs) :
    Calls Tryz.prog 6 #[lv, mv, ov] w fun e w' => e = .returned (.bool true) ∧ Below w.heap.size w w' := by
  have HK0 := Lib.hid (show Keep [cB w, cRu S lv l, cRu S2 mv m, cS S3 ov objs] w from ⟨Below.refl _ _, h, hm, ho, trivial⟩)
  obtain ⟨⟨la, lc⟩, rfl⟩ := h.shape
  obtain ⟨⟨ma, mc⟩, rfl⟩ := hm.shape
  obtain ⟨oa, oc, rfl⟩ := ho.vshape
  have HD := Lib.hid (drefs_any l m _ _ _ _ w h hm)
  clear h hm ho
  by_cases hE : listsE l m = 0
  case neg =>
    have hr : refsL l m = [] := by unfold refsL; rw [if_neg hE]
    rw [hr] at HD
    have hq : (listsE l m != 0) = true := by simpa using hE
    clear hE hr
    generalize listsE l m = E at *
    obtain ⟨us, hus⟩ : ∃ us : List Mv, us = [] := ⟨_, rfl⟩
    have hn : us.length = 0 := by rw [hus]; rfl
    rw [← hus] at HD
    clear hus
    go_enter Tryz.func6, Tryz.ntmps6
    go_wp2_with fail
    refine HD.out.mono ?_
    rintro e w1 ⟨v1, rfl, hv1, hb1⟩
    have HK1 := Lib.hid (Keep.push (c := cMu (fun _ => True) v1 us) (HK0.out.below hb1) hv1)
    obtain ⟨⟨p1, c1⟩, rfl⟩ := hv1.shape
    rw [hn] at HK1
    clear hv1 hb1 HK0 HD
    rw [hn]
    go_wp2_with fail
    refine (diffBegun_any _).mono ?_
    rintro e w2 ⟨rfl, hb2⟩
    have HK2 := Lib.hid (HK1.out.below hb2)
    clear hb2 HK1
    go_wp2_with fail
    refine (updateBegun_any _).mono ?_
    rintro e w3 ⟨rfl, hb3⟩
    have HK3 := Lib.hid (HK2.out.below hb3)
    clear hb3 HK2
    have HB := Lib.hid HK3.out.2.1
    clear HK3
    go_wp2_with fail
    go_ret
    exact ⟨rfl, HB.out⟩
  case pos =>
    have hl := lists_self hE
    obtain ⟨_, _, al, am⟩ := lists_ok hE
    have hr : refsL l m = leadL l m := by unfold refsL; rw [if_pos hE]
    have hrl : refsL l l = [] := by unfold refsL; rw [if_pos hl]; exact (lead_none al al).2 rfl
    have HS := Lib.hid (fun x (hx : Below w.heap.size w x) => drefs_any l l _ _ _ _ x (HK0.out.below hx).2.1 (HK0.out.below hx).2.1)
    rw [hl, hrl] at HS
    rw [hE, hr] at HD
    have Hno := Lib.hid (lead_none al am)
    have Hap := Lib.hid (fun h1 h2 h3 h4 => lead_applied (l := l) (m := m) (objs := objs) h1 h2 h3 h4)
    have HR := Lib.hid (fun x (hx : Below w.heap.size w x) => sameRefs_any l m _ _ _ _ x (HK0.out.below hx).2.1 (HK0.out.below hx).2.2.1)
    have HC1 := Lib.hid (fun x (hx : Below w.heap.size w x) => checkRefs_any l objs _ _ _ _ x (HK0.out.below hx).2.1 (HK0.out.below hx).2.2.2.1)
    have HC2 := Lib.hid (fun x (hx : Below w.heap.size w x) => checkRefs_any m objs _ _ _ _ x (HK0.out.below hx).2.2.1 (HK0.out.below hx).2.2.2.1)
    clear hE hl al am hr hrl
    generalize leadL l m = us at *
    by_cases h0 : us.length = 0
    case pos =>
      have hn := h0
      have hb : sameRefs l m = true := (sameRefs_iff l m).2 (Hno.out.1 (List.length_eq_zero_iff.1 h0))
      rw [hb] at HR
      clear h0 hb Hno Hap HC1 HC2
      go_enter Tryz.func6, Tryz.ntmps6
      go_wp2_with fail
      refine HD.out.mono ?_
      rintro e w1 ⟨v1, rfl, hv1, hb1⟩
      have HK1 := Lib.hid (Keep.push (c := cMu (fun _ => True) v1 us) (HK0.out.below hb1) hv1)
      obtain ⟨⟨p1, c1⟩, rfl⟩ := hv1.shape
      rw [hn] at HK1
      clear hv1 hb1 HK0 HD
      rw [hn]
      go_wp2_with fail
      refine (diffBegun_any _).mono ?_
      rintro e w2 ⟨rfl, hb2⟩
      have HK2 := Lib.hid (HK1.out.below hb2)
      clear hb2 HK1
      go_wp2_with fail
      refine (updateBegun_any _).mono ?_
      rintro e w3 ⟨rfl, hb3⟩
      have HK3 := Lib.hid (HK2.out.below hb3)
      clear hb3 HK2
      have HS3 := Lib.hid (HS.out _ HK3.out.2.1)
      go_wp2_with fail
      refine HS3.out.mono ?_
      rintro e w4 ⟨v4, rfl, hv4, hb4⟩
      obtain ⟨⟨p4, c4⟩, rfl⟩ := hv4.shape
      have HK4 := Lib.hid (HK3.out.below hb4)
      clear hb4 hv4 HK3 HS3 HS
      have HR4 := Lib.hid (HR.out _ HK4.out.2.1)
      go_wp2_with fail
      refine HR4.out.mono ?_
      rintro e w5 ⟨rfl, hb5⟩
      have HK5 := Lib.hid (HK4.out.below hb5)
      clear hb5 HK4 HR4 HR
      go_wp2_with fail
      have HB := Lib.hid HK5.out.2.1
      go_ret
      exact ⟨rfl, HB.out⟩
    case neg =>
      have hb : sameRefs l m = false := by
        cases e : sameRefs l m
        · rfl
        · exact absurd (by rw [Hno.out.2 ((sameRefs_iff l m).1 e)]; rfl) h0
      rw [hb] at HR
      clear hb Hno
      obtain ⟨n, hn⟩ : ∃ n, us.length = n := ⟨_, rfl⟩
      rw [hn] at h0 Hap
      have q1 : ((n : Int) == 0) = false := by simp; omega
      have q1n : (n == 0) = false := by simp; omega
      by_cases h4 : 4 < n
      case pos =>
        have q2 : decide ((4 : Int) < (n : Int)) = true := by simp; omega
        have q2n : decide (4 < n) = true := decide_eq_true h4
        clear Hap HC1 HC2
        go_enter Tryz.func6, Tryz.ntmps6
        go_wp2_with fail
        refine HD.out.mono ?_
        rintro e w1 ⟨v1, rfl, hv1, hb1⟩
        have HK1 := Lib.hid (Keep.push (c := cMu (fun _ => True) v1 us) (HK0.out.below hb1) hv1)
        obtain ⟨⟨p1, c1⟩, rfl⟩ := hv1.shape
        rw [hn] at HK1
        clear hv1 hb1 HK0 HD
        rw [hn]
        go_wp2_with fail
        refine (diffBegun_any _).mono ?_
        rintro e w2 ⟨rfl, hb2⟩
        have HK2 := Lib.hid (HK1.out.below hb2)
        clear hb2 HK1
        go_wp2_with fail
        refine (updateBegun_any _).mono ?_
        rintro e w3 ⟨rfl, hb3⟩
        have HK3 := Lib.hid (HK2.out.below hb3)
        clear hb3 HK2
        have HS3 := Lib.hid (HS.out _ HK3.out.2.1)
        go_wp2_with fail
        refine HS3.out.mono ?_
        rintro e w4 ⟨v4, rfl, hv4, hb4⟩
        obtain ⟨⟨p4, c4⟩, rfl⟩ := hv4.shape
        have HK4 := Lib.hid (HK3.out.below hb4)
        clear hb4 hv4 HK3 HS3 HS
        have HR4 := Lib.hid (HR.out _ HK4.out.2.1)
        go_wp2_with fail
        refine HR4.out.mono ?_
        rintro e w5 ⟨rfl, hb5⟩
        have HK5 := Lib.hid (HK4.out.below hb5)
        clear hb5 HK4 HR4 HR
        go_wp2_with fail
        have HB := Lib.hid HK5.out.2.1
        go_ret
        exact ⟨rfl, HB.out⟩
      case neg =>
        have q2 : decide ((4 : Int) < (n : Int)) = false := by simp; omega
        have q2n : decide (4 < n) = false := decide_eq_false h4
        by_cases e1 : checkRefs l objs = 0
        case neg =>
          have q3 : (checkRefs l objs != 0) = true := by simpa using e1
          clear e1 Hap HC2
          generalize checkRefs l objs = k1 at *
          go_enter Tryz.func6, Tryz.ntmps6
          go_wp2_with fail
          refine HD.out.mono ?_
          rintro e w1 ⟨v1, rfl, hv1, hb1⟩
          have HK1 := Lib.hid (Keep.push (c := cMu (fun _ => True) v1 us) (HK0.out.below hb1) hv1)
          obtain ⟨⟨p1, c1⟩, rfl⟩ := hv1.shape
          rw [hn] at HK1
          clear hv1 hb1 HK0 HD
          rw [hn]
          go_wp2_with fail
          refine (diffBegun_any _).mono ?_
          rintro e w2 ⟨rfl, hb2⟩
          have HK2 := Lib.hid (HK1.out.below hb2)
          clear hb2 HK1
          go_wp2_with fail
          refine (updateBegun_any _).mono ?_
          rintro e w3 ⟨rfl, hb3⟩
          have HK3 := Lib.hid (HK2.out.below hb3)
          clear hb3 HK2
          have HS3 := Lib.hid (HS.out _ HK3.out.2.1)
          go_wp2_with fail
          refine HS3.out.mono ?_
          rintro e w4 ⟨v4, rfl, hv4, hb4⟩
          obtain ⟨⟨p4, c4⟩, rfl⟩ := hv4.shape
          have HK4 := Lib.hid (HK3.out.below hb4)
          clear hb4 hv4 HK3 HS3 HS
          have HR4 := Lib.hid (HR.out _ HK4.out.2.1)
          go_wp2_with fail
          refine HR4.out.mono ?_
          rintro e w5 ⟨rfl, hb5⟩
          have HK5 := Lib.hid (HK4.out.below hb5)
          clear hb5 HK4 HR4 HR
          go_wp2_with fail
          have HC11 := Lib.hid (HC1.out _ HK5.out.2.1)
          clear HC1
          refine HC11.out.mono ?_
          rintro e w6 ⟨rfl, hb6⟩
          have HK6 := Lib.hid (HK5.out.below hb6)
          clear hb6 HK5 HC11
          go_wp2_with fail
          have HB := Lib.hid HK6.out.2.1
          go_ret
          exact ⟨rfl, HB.out⟩
        case pos =>
          by_cases e2 : checkRefs m objs = 0
          case neg =>
            have q3 : (checkRefs m objs != 0) = true := by simpa using e2
            rw [e1] at HC1
            clear e1 e2 Hap
            generalize checkRefs m objs = k2 at *
            go_enter Tryz.func6, Tryz.ntmps6
            go_wp2_with fail
            refine HD.out.mono ?_
            rintro e w1 ⟨v1, rfl, hv1, hb1⟩
            have HK1 := Lib.hid (Keep.push (c := cMu (fun _ => True) v1 us) (HK0.out.below hb1) hv1)
            obtain ⟨⟨p1, c1⟩, rfl⟩ := hv1.shape
            rw [hn] at HK1
            clear hv1 hb1 HK0 HD
            rw [hn]
            go_wp2_with fail
            refine (diffBegun_any _).mono ?_
            rintro e w2 ⟨rfl, hb2⟩
            have HK2 := Lib.hid (HK1.out.below hb2)
            clear hb2 HK1
            go_wp2_with fail
            refine (updateBegun_any _).mono ?_
            rintro e w3 ⟨rfl, hb3⟩
            have HK3 := Lib.hid (HK2.out.below hb3)
            clear hb3 HK2
            have HS3 := Lib.hid (HS.out _ HK3.out.2.1)
            go_wp2_with fail
            refine HS3.out.mono ?_
            rintro e w4 ⟨v4, rfl, hv4, hb4⟩
            obtain ⟨⟨p4, c4⟩, rfl⟩ := hv4.shape
            have HK4 := Lib.hid (HK3.out.below hb4)
            clear hb4 hv4 HK3 HS3 HS
            have HR4 := Lib.hid (HR.out _ HK4.out.2.1)
            go_wp2_with fail
            refine HR4.out.mono ?_
            rintro e w5 ⟨rfl, hb5⟩
            have HK5 := Lib.hid (HK4.out.below hb5)
            clear hb5 HK4 HR4 HR
            go_wp2_with fail
            have HC11 := Lib.hid (HC1.out _ HK5.out.2.1)
            clear HC1
            refine HC11.out.mono ?_
            rintro e w6 ⟨rfl, hb6⟩
            have HK6 := Lib.hid (HK5.out.below hb6)
            clear hb6 HK5 HC11
            go_wp2_with fail
            have HC22 := Lib.hid (HC2.out _ HK6.out.2.1)
            clear HC2
            refine HC22.out.mono ?_
            rintro e w7 ⟨rfl, hb7⟩
            have HK7 := Lib.hid (HK6.out.below hb7)
            clear hb7 HK6 HC22
            go_wp2_with fail
            have HB := Lib.hid HK7.out.2.1
            go_ret
            exact ⟨rfl, HB.out⟩
          case pos =>
            have hA := (Hap.out e1 e2 (by omega) (by omega)).of
            have HA := Lib.hid (fun x v1 (hx : Below w.heap.size w x) (h1 : MvsV (fun _ => True) x v1 us) => apply_any m objs us true _ _ v1 _ _ _ x (HK0.out.below hx).2.2.1 (HK0.out.below hx).2.2.2.1 h1)
            rw [hA.1, hA.2] at HA
            have HRl := Lib.hid (fun x v1 (S : Nat → Prop) (hx : Below w.heap.size w x) (h1 : RefsV S x v1 l) => sameRefs_any l l v1 _ _ _ x h1 (HK0.out.below hx).2.1)
            rw [(sameRefs_iff l l).2 rfl] at HRl
            rw [e1] at HC1
            rw [e2] at HC2
            clear e1 e2 Hap hA
            go_enter Tryz.func6, Tryz.ntmps6
            go_wp2_with fail
            refine HD.out.mono ?_
            rintro e w1 ⟨v1, rfl, hv1, hb1⟩
            have HK1 := Lib.hid (Keep.push (c := cMu (fun _ => True) v1 us) (HK0.out.below hb1) hv1)
            obtain ⟨⟨p1, c1⟩, rfl⟩ := hv1.shape
            rw [hn] at HK1
            clear hv1 hb1 HK0 HD
            rw [hn]
            go_wp2_with fail
            refine (diffBegun_any _).mono ?_
            rintro e w2 ⟨rfl, hb2⟩
            have HK2 := Lib.hid (HK1.out.below hb2)
            clear hb2 HK1
            go_wp2_with fail
            refine (updateBegun_any _).mono ?_
            rintro e w3 ⟨rfl, hb3⟩
            have HK3 := Lib.hid (HK2.out.below hb3)
            clear hb3 HK2
            have HS3 := Lib.hid (HS.out _ HK3.out.2.1)
            go_wp2_with fail
            refine HS3.out.mono ?_
            rintro e w4 ⟨v4, rfl, hv4, hb4⟩
            obtain ⟨⟨p4, c4⟩, rfl⟩ := hv4.shape
            have HK4 := Lib.hid (HK3.out.below hb4)
            clear hb4 hv4 HK3 HS3 HS
            have HR4 := Lib.hid (HR.out _ HK4.out.2.1)
            go_wp2_with fail
            refine HR4.out.mono ?_
            rintro e w5 ⟨rfl, hb5⟩
            have HK5 := Lib.hid (HK4.out.below hb5)
            clear hb5 HK4 HR4 HR
            go_wp2_with fail
            have HC11 := Lib.hid (HC1.out _ HK5.out.2.1)
            clear HC1
            refine HC11.out.mono ?_
            rintro e w6 ⟨rfl, hb6⟩
            have HK6 := Lib.hid (HK5.out.below hb6)
            clear hb6 HK5 HC11
            go_wp2_with fail
            have HC22 := Lib.hid (HC2.out _ HK6.out.2.1)
            clear HC2
            refine HC22.out.mono ?_
            rintro e w7 ⟨rfl, hb7⟩
            have HK7 := Lib.hid (HK6.out.below hb7)
            clear hb7 HK6 HC22
            go_wp2_with fail
            have HA7 := Lib.hid (HA.out _ _ HK7.out.2.1 HK7.out.1)
            clear HA
            refine HA7.out.mono ?_
            rintro e w8 ⟨v8, rfl, hv8, hb8⟩
            obtain ⟨⟨p8, c8⟩, rfl⟩ := hv8.shape
            have HK8 := Lib.hid (HK7.out.below hb8)
            have HR8 := Lib.hid (HRl.out _ _ _ HK8.out.2.1 hv8)
            clear hb8 hv8 HK7 HA7 HRl
            go_wp2_with fail
            refine HR8.out.mono ?_
            rintro e w9 ⟨rfl, hb9⟩
            have HB := Lib.hid (HK8.out.below hb9).2.1
            clear hb9 HK8 HR8
            go_wp2_with fail
            go_ret
            exact ⟨rfl, HB.out⟩
end Go.Proofs.YtkaoldnhooojiaaGreatDoor
