
/- Walks: the law WalkTips, of tips that are not too many for one slice. -/
import Derived.Test.YtcppgkhkijejoaaAppI
import Derived.Test.YtcppgkhkijejoaaWalkPart
namespace Go.Proofs.Ytcppgkhkijejoaa
open Go.RowKit
set_option linter.unusedVariables false
set_option linter.unusedSimpArgs false

theorem hasB_ids {p : List Obj} {z : Int} : hasB (p.map (·.id)) z = true ↔ ∃ o ∈ p, o.id = z := by
  unfold hasB
  rw [List.any_eq_true]
  constructor
  · rintro ⟨x, hx, e⟩
    obtain ⟨o, ho, rfl⟩ := List.mem_map.1 hx
    exact ⟨o, ho, by simpa using e⟩
  · rintro ⟨o, ho, rfl⟩
    exact ⟨o.id, List.mem_map.2 ⟨o, ho, rfl⟩, by simp⟩

theorem tips_has {l : List Obj} {a b : List Int} (h : Right l) (z : Int) : hasB ((partOf l (a ++ b)).map (·.id)) z = (hasB ((partOf l a).map (·.id)) z || hasB ((partOf l b).map (·.id)) z) := by
  rw [Bool.eq_iff_iff, Bool.or_eq_true, hasB_ids, hasB_ids, hasB_ids]
  constructor
  · rintro ⟨o, ho, e⟩
    rcases (tips_append h).1 ho with h1 | h1
    · exact .inl ⟨o, h1, e⟩
    · exact .inr ⟨o, h1, e⟩
  · rintro (⟨o, ho, e⟩ | ⟨o, ho, e⟩)
    · exact ⟨o, (tips_append h).2 (.inl ho), e⟩
    · exact ⟨o, (tips_append h).2 (.inr ho), e⟩

set_option maxRecDepth 100000 in
set_option maxHeartbeats 8000000 in
theorem walkTips_any (l : List Obj) (ta tb : List Int) (lv av bv : Value) (S S1 S2 : Nat → Prop) (w : World) (h : StoreV S w lv l) (ha : IntsV S1 w av ta) (hb : IntsV S2 w bv tb) (hsz : ta.length ≤ 4194304 ∧ tb.length ≤ 4194304) :
    Calls Try.prog 8 #[lv, av, bv] w fun e w' => e = .returned (.bool true) ∧ Below w.heap.size w w' := by
  have HK0 := Lib.hid (show Keep [cB w, cS S lv l, cI S1 av ta, cI S2 bv tb] w from ⟨Below.refl _ _, h, ha, hb, trivial⟩)
  obtain ⟨la, lc, rfl⟩ := h.vshape
  obtain ⟨⟨aa, ac⟩, rfl⟩ := ha.shape
  obtain ⟨⟨ba, bc⟩, rfl⟩ := hb.shape
  have Hra := Lib.hid (reach_any l ta _ _ _ _ w HK0.out.2.1 HK0.out.2.2.1)
  have hz3 : (thereErr l ta = 0 ∧ thereErr l tb = 0) ∨ (thereErr l ta ≠ 0) ∨ (thereErr l ta = 0 ∧ thereErr l tb ≠ 0) := by
    by_cases a : thereErr l ta = 0
    · by_cases b : thereErr l tb = 0
      · exact .inl ⟨a, b⟩
      · exact .inr (.inr ⟨a, b⟩)
    · exact .inr (.inl a)
  have Hna := Lib.hid (fun (e : thereErr l ta ≠ 0) => show partRes l ta = [] by unfold partRes; rw [if_neg e])
  have Hnb := Lib.hid (fun (e : thereErr l tb ≠ 0) => show partRes l tb = [] by unfold partRes; rw [if_neg e])
  clear h ha hb
  rcases hz3 with ⟨hza, hzb⟩ | hza | ⟨hza, hzb⟩
  · have hR := right_of (there_zero hza).1
    have hpa := partRes_eq hza
    have hpb := partRes_eq hzb
    have HZ := Lib.hid (show thereErr l (ta ++ tb) = 0 ∧ partRes l (ta ++ tb) = partOf l (ta ++ tb) from ⟨tips_there hza hzb, (partRes_eq (tips_there hza hzb)).symm⟩)
    have hz2 := tips_there hza (reached_there hza)
    have HW := Lib.hid (show thereErr l (ta ++ (partOf l ta).map (·.id)) = 0 ∧ partRes l (ta ++ (partOf l ta).map (·.id)) = partOf l ta from ⟨hz2, by rw [← partRes_eq hz2, tips_reached hR]⟩)
    have Hhas := Lib.hid (fun z => tips_has (l := l) (a := ta) (b := tb) hR z)
    have Hrb := Lib.hid (fun x (hx : Below w.heap.size w x) => reach_any l tb _ _ _ _ x (Keep.below HK0.out hx).2.1 (Keep.below HK0.out hx).2.2.2.1)
    have hlp := partRes_length l ta
    rw [hza, ← hpa] at Hra
    rw [hzb, ← hpb] at Hrb
    rw [← hpa] at hlp
    have Hhw := Lib.hid (fun x v (hS : StoreV S x (.slice la l.length lc) l) (hI : IntsV (fun _ => True) x v (ta ++ tb)) => by have := reach_any l (ta ++ tb) _ _ _ _ x hS hI; rw [HZ.out.1, HZ.out.2] at this; exact this)
    have Hhw2 := Lib.hid (fun x v (hS : StoreV S x (.slice la l.length lc) l) (hI : IntsV (fun _ => True) x v (ta ++ (partOf l ta).map (·.id))) => by have := reach_any l (ta ++ (partOf l ta).map (·.id)) _ _ _ _ x hS hI; rw [HW.out.1, HW.out.2] at this; exact this)
    have hxl : ((partOf l ta).map (·.id)).length ≤ 40 := by rw [List.length_map]; exact hlp
    clear hR hza hzb hpa hpb hz2 HZ HW hlp Hna Hnb
    generalize (partOf l ta).map (·.id) = X at *
    generalize (partOf l tb).map (·.id) = Y at *
    generalize (partOf l (ta ++ tb)).map (·.id) = Z at *
    go_enter Try.func8, Try.ntmps8
    go_wp2_with fail
    refine Hra.out.mono ?_
    rintro e w1 ⟨v1, rfl, hv1, hb1⟩
    obtain ⟨⟨p1, c1⟩, rfl⟩ := hv1.shape
    have HX1 := Lib.hid (And.intro hv1 hb1)
    clear hv1 hb1 Hra
    go_wp2_with fail
    refine (Hrb.out _ HX1.out.2).mono ?_
    rintro e w2 ⟨v2, rfl, hv2, hb2⟩
    obtain ⟨⟨p2, c2⟩, rfl⟩ := hv2.shape
    have HK2 := Lib.hid (Keep.push (c := cI (fun _ => True) (.slice p2 Y.length c2) Y) (Keep.push (c := cI (fun _ => True) (.slice p1 X.length c1) X) (HK0.out.below (below_next HX1.out.2 hb2)) (HX1.out.1.below hb2)) hv2)
    clear hv2 hb2 Hrb HX1 HK0
    go_wp2_with fail
    refine (walkBegun_any _).mono ?_
    rintro e w3 ⟨rfl, hb3⟩
    have HK3 := Lib.hid (HK2.out.below hb3)
    clear hb3 HK2
    obtain ⟨u1, x1, u2, x2, hr1, hr2, ⟨s1, n1, k1, rfl⟩, ⟨s2, k2, rfl⟩, hI2, hB2⟩ := run_append_two 22 HK3.out.2.2.2.2.1 HK3.out.2.2.2.2.2.1 (by omega)
    have HK4 := Lib.hid (HK3.out.below hB2)
    have Hz := Lib.hid (Hhw.out x2 _ HK4.out.2.2.2.1 hI2)
    clear HK3 hB2 hI2 Hhw
    go_wp2_with (first
      | (at_builtin; refine wpList_append_run rfl (.tmp 54) (.tmp 55) 22 rfl _ _ _ rfl rfl hr1 ?_)
      | (at_builtin; refine wpList_append_run rfl (.tmp 56) (.tmp 57) 22 rfl _ _ _ rfl rfl hr2 ?_))
    clear hr1 hr2
    refine Hz.out.mono ?_
    rintro e w5 ⟨v5, rfl, hv5, hb5⟩
    obtain ⟨⟨p5, c5⟩, rfl⟩ := hv5.shape
    have HK5 := Lib.hid (Keep.push (c := cI (fun _ => True) (.slice p5 Z.length c5) Z) (HK4.out.below hb5) hv5)
    clear hv5 hb5 HK4 Hz
    obtain ⟨u3, x3, u4, x4, hr3, hr4, ⟨s3, n3, k3, rfl⟩, ⟨s4, k4, rfl⟩, hI4, hB4⟩ := run_append_two 22 HK5.out.2.2.2.2.2.1 HK5.out.2.2.1 (by omega)
    have HK6 := Lib.hid (HK5.out.below hB4)
    have Hw := Lib.hid (Hhw2.out x4 _ HK6.out.2.2.2.2.1 hI4)
    clear HK5 hB4 hI4 Hhw2
    go_wp2_with (first
      | (at_builtin; refine wpList_append_run rfl (.tmp 64) (.tmp 65) 22 rfl _ _ _ rfl rfl hr3 ?_)
      | (at_builtin; refine wpList_append_run rfl (.tmp 66) (.tmp 67) 22 rfl _ _ _ rfl rfl hr4 ?_))
    clear hr3 hr4
    refine Hw.out.mono ?_
    rintro e w7 ⟨v7, rfl, hv7, hb7⟩
    obtain ⟨⟨p7, c7⟩, rfl⟩ := hv7.shape
    have HK7 := Lib.hid (Keep.push (c := cI (fun _ => True) (.slice p7 X.length c7) X) (HK6.out.below hb7) hv7)
    have hSI := sameInts_any X X _ _ _ _ w7 HK7.out.1 HK7.out.2.2.2.1
    rw [show sameInts X X = true by simp [sameInts]] at hSI
    have HSI := Lib.hid hSI
    clear hv7 hb7 HK6 Hw hSI
    go_wp2_with fail
    refine HSI.out.mono ?_
    rintro e w8 ⟨rfl, hb8⟩
    have HK8 := Lib.hid (HK7.out.below hb8)
    clear hb8 HK7 HSI
    go_wp2_with fail
    obtain ⟨n, hn⟩ : ∃ n, n = l.length := ⟨_, rfl⟩
    rw [← hn] at HK8
    rw [← hn]
    have Hn := Lib.hid hn
    clear hn
    go_loopw [15] (fun i wr => ∃ k : Nat, k ≤ n ∧ i = .int .i64 k ∧ Hid (Keep [cI (fun _ => True) (.slice p7 X.length c7) X, cI (fun _ => True) (.slice p5 Z.length c5) Z, cI (fun _ => True) (.slice p2 Y.length c2) Y, cI (fun _ => True) (.slice p1 X.length c1) X, cB w, cS S (.slice la n lc) l, cI S1 (.slice aa ta.length ac) ta, cI S2 (.slice ba tb.length bc) tb] wr)) (fun i _ => n - (intOf i).toNat)
    case atStart => exact ⟨0, by omega, rfl, HK8.out⟩
    case round =>
      obtain ⟨k, hk, rfl, HK9⟩ := hrel
      clear HK8
      have hn63 : n ≤ 9223372036854775807 := by
        obtain ⟨_, ⟨_, cap, e, h1, h2, _⟩, _⟩ := HK9.out.2.2.2.2.2.1
        have := Hn.out
        omega
      by_cases hlt : k < n
      · obtain ⟨b, off, p, c, e5, ⟨x0, _, _, _⟩, _⟩ := store_elem HK9.out.2.2.2.2.2.1 (i := k) (by have := Hn.out; omega)
        cases e5
        have x0' := fun m => (show (wr.drewN m).cell? ⟨b, off + k * 4, none⟩ = some (.int .i64 (obj l k).id) from x0)
        have hi1 : (0 : Int) ≤ (k : Int) := by omega
        have hi2 : (k : Int) < (n : Int) := by omega
        have HA := Lib.hid (fun x hx => lawHas_any Z _ _ (obj l k).id x (Keep.below HK9.out hx).2.1)
        have HB := Lib.hid (fun x hx => lawHas_any X _ _ (obj l k).id x (Keep.below HK9.out hx).2.2.2.1)
        have HC := Lib.hid (fun x hx => lawHas_any Y _ _ (obj l k).id x (Keep.below HK9.out hx).2.2.1)
        have hhas := Hhas.out (obj l k).id
        generalize (obj l k).id = z at *
        generalize hasB Z z = bz at *
        generalize hasB X z = bx at *
        generalize hasB Y z = bY at *
        subst hhas
        cases bx <;> cases bY
        all_goals
          go_wp2_with fail
          go_quiet (first
            | (go_at_call 35; with_reducible exact quiet_same (HA.out _ (below_drewN _ _ _ (Below.refl _ _))))
            | (go_at_call 35; with_reducible exact quiet_same (HB.out _ (below_drewN _ _ _ (Below.refl _ _))))
            | (go_at_call 35; with_reducible exact quiet_same (HC.out _ (below_drewN _ _ _ (Below.refl _ _)))))
          have HKn := Lib.hid (HK9.out.drewN nq)
          clear HK9 x0 x0'
          generalize wr.drewN nq = w9 at *
          go_wp2_with fail
          go_roundw
          case rel => exact ⟨k + 1, by omega, by go_num, HKn.out⟩
          case measure => simp [intOf]; omega
      · obtain rfl : k = n := by omega
        go_wp2_with fail
        go_ret
        exact ⟨rfl, HK9.out.2.2.2.2.1⟩
  · have hq : (thereErr l ta != 0) = true := by simpa using hza
    have hq2 : (thereErr l ta == 0) = false := by simpa using hza
    have hx := Hna.out hza
    have Hrb := Lib.hid (fun x (hx : Below w.heap.size w x) => reach_any l tb _ _ _ _ x (Keep.below HK0.out hx).2.1 (Keep.below HK0.out hx).2.2.2.1)
    rw [hx] at Hra
    have hyy : thereErr l tb = 0 ∨ (thereErr l tb ≠ 0 ∧ partRes l tb = []) := by
      by_cases b : thereErr l tb = 0
      · exact .inl b
      · exact .inr ⟨b, Hnb.out b⟩
    clear hx hza Hna Hnb
    generalize thereErr l ta = te at *
    generalize thereErr l tb = te2 at *
    generalize partRes l tb = py at *
    have hc2 : ((te2 == 0) = true) ∨ ((te2 == 0) = false ∧ py = []) := by
      rcases hyy with h | ⟨h1, h2⟩
      · exact .inl (by simpa using h)
      · exact .inr ⟨by simpa using h1, h2⟩
    clear hyy
    rcases hc2 with hc2 | ⟨hc2, rfl⟩
    all_goals
      go_enter Try.func8, Try.ntmps8
      go_wp2_with fail
      refine Hra.out.mono ?_
      rintro e w1 ⟨v1, rfl, hv1, hb1⟩
      obtain ⟨⟨p1, c1⟩, rfl⟩ := hv1.shape
      have HB1 := Lib.hid hb1
      clear hv1 hb1
      go_wp2_with fail
      refine (Hrb.out _ HB1.out).mono ?_
      rintro e w2 ⟨v2, rfl, hv2, hb2⟩
      obtain ⟨⟨p2, c2⟩, rfl⟩ := hv2.shape
      have HB2 := Lib.hid (below_next HB1.out hb2)
      clear hv2 hb2
      go_wp2_with fail
      refine (walkBegun_any _).mono ?_
      rintro e w3 ⟨rfl, hb3⟩
      have HB3 := Lib.hid (below_next HB2.out hb3)
      clear hb3
      go_wp2_with fail
      go_ret
      exact ⟨rfl, HB3.out⟩
  · have hq : (thereErr l tb != 0) = true := by simpa using hzb
    have hq2 : (thereErr l tb == 0) = false := by simpa using hzb
    have hx := Hnb.out hzb
    have Hrb := Lib.hid (fun x (hx : Below w.heap.size w x) => reach_any l tb _ _ _ _ x (Keep.below HK0.out hx).2.1 (Keep.below HK0.out hx).2.2.2.1)
    rw [hx] at Hrb
    rw [hza] at Hra
    clear hx hza hzb Hna Hnb
    generalize thereErr l tb = te2 at *
    generalize partRes l ta = px at *
    go_enter Try.func8, Try.ntmps8
    go_wp2_with fail
    refine Hra.out.mono ?_
    rintro e w1 ⟨v1, rfl, hv1, hb1⟩
    obtain ⟨⟨p1, c1⟩, rfl⟩ := hv1.shape
    have HB1 := Lib.hid hb1
    clear hv1 hb1
    go_wp2_with fail
    refine (Hrb.out _ HB1.out).mono ?_
    rintro e w2 ⟨v2, rfl, hv2, hb2⟩
    obtain ⟨⟨p2, c2⟩, rfl⟩ := hv2.shape
    have HB2 := Lib.hid (below_next HB1.out hb2)
    clear hv2 hb2
    go_wp2_with fail
    refine (walkBegun_any _).mono ?_
    rintro e w3 ⟨rfl, hb3⟩
    have HB3 := Lib.hid (below_next HB2.out hb3)
    clear hb3
    go_wp2_with fail
    go_ret
    exact ⟨rfl, HB3.out⟩
end Go.Proofs.Ytcppgkhkijejoaa
