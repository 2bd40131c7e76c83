
/- Walks: the law DiffWhole. -/
import Derived.Test.YtipdlhjblfhnjaaDiffF
import Derived.Test.YtipdlhjblfhnjaaRefB
import Derived.Deep.DeepCutAuto
namespace Go.Proofs.Ytipdlhjblfhnjaa
open Go.RowKit
set_option linter.unusedVariables false
set_option linter.unusedSimpArgs false

set_option maxRecDepth 100000 in
set_option maxHeartbeats 4000000 in
theorem diffWhole_any (a b : List Obj) (av bv : Value) (S S1 : Nat → Prop) (w : World) (ha : StoreV S w av a) (hb : StoreV S1 w bv b) :
    Calls Try.prog 4 #[av, bv] w fun e w' => e = .returned (.bool true) ∧ Below w.heap.size w w' := by
  have HK0 := Lib.hid (show Keep [cB w, cS S av a, cS S1 bv b] w from ⟨Below.refl _ _, ha, hb, trivial⟩)
  obtain ⟨aa, n, ac, xa, xn, xc, HN, rfl, g1, g2, g3, _, _⟩ := ha.open
  obtain ⟨ba, n', bc, ya, yn, yc, HN', rfl, k1, k2, k3, _, _⟩ := hb.open
  have Hn := Lib.hid HN.out.1
  have Hn' := Lib.hid HN'.out.1
  have HdL := Lib.hid (show diffE a b ≠ 0 → diffL a b = [] from fun h => by unfold diffL; rw [if_neg h])
  have Hlaw := Lib.hid (@whole_law a b)
  clear ha hb HN HN'
  go_enter Try.func4, Try.ntmps4
  go_wp2_with fail
  have hA := objects_any a b _ _ _ _ w HK0.out.2.1 HK0.out.2.2.1
  refine hA.mono ?_
  rintro e w1 ⟨v1, rfl, hv1, hb1⟩
  obtain ⟨a1, t, c1, z1, z2, z3, HT, rfl, t1, t2, t3, _, _⟩ := hv1.open
  have Ht := Lib.hid HT.out.1
  have HK1 := Lib.hid (Keep.push (c := cS (fun _ => True) (.slice a1 t c1) (diffL a b)) (HK0.out.below hb1) hv1)
  clear hv1 hb1 hA HK0 HT
  go_wp2_with fail
  refine (diffBegun_any _).mono ?_
  rintro e w2 ⟨rfl, hb2⟩
  have HK2 := Lib.hid (HK1.out.below hb2)
  clear hb2 HK1
  go_wp2_with fail
  refine (storeBegun_any _).mono ?_
  rintro e w3 ⟨rfl, hb3⟩
  have HK3 := Lib.hid (HK2.out.below hb3)
  clear hb3 HK2
  by_cases h0 : diffE a b = 0
  · by_cases h12 : 12 < t
    · have HB := Lib.hid HK3.out.2.1
      have hd : decide ((12 : Int) < (t : Int)) = true := by simp; omega
      have hq : (diffE a b == 0) = true := by simpa using h0
      have hq2 : (diffE a b != 0) = false := by simpa using h0
      clear h0
      go_wp2_with fail
      go_ret
      exact ⟨rfl, HB.out⟩
    · have hl := Hlaw.out h0 (by rw [← Ht.out]; omega)
      have hd : decide ((12 : Int) < (t : Int)) = false := by simp; omega
      have hq : (diffE a b == 0) = true := by simpa using h0
      have hq2 : (diffE a b != 0) = false := by simpa using h0
      have hAdd := add_any b (diffL a b) _ _ _ _ w3 HK3.out.2.2.2.1 HK3.out.1
      clear h0 h12
      rcases hl with ⟨h1, h2⟩ | ⟨h1, h2, h3, h4, h5, h6, h7⟩
      · have hn : 40 < n + n' := by rw [Hn.out, Hn'.out]; exact h2
        have hn2 : (40 : Int) < (n : Int) + (n' : Int) := by omega
        have hw : IntKind.i64.wrap ((n : Int) + (n' : Int)) = (n : Int) + (n' : Int) := wrap_in (by omega)
        have hwn : n + n' ≤ 9223372036854775807 := by omega
        rw [h1] at hAdd
        clear h1 h2 hn
        go_wp2_with fail
        refine hAdd.mono ?_
        rintro e w4 ⟨v4, rfl, hv4, hb4⟩
        obtain ⟨a4, c4, rfl⟩ := hv4.vshape
        have HB := Lib.hid (below_next HK3.out.2.1 hb4)
        clear hv4 hb4 hAdd
        go_wp2_with fail
        go_ret
        exact ⟨rfl, HB.out⟩
      · rw [h1] at hAdd
        generalize addL b (diffL a b) = J at *
        have Hx2 := Lib.hid h2
        have Hx3 := Lib.hid h3
        have Hx4 := Lib.hid h4
        have Hx5 := Lib.hid h5
        have Hx6 := Lib.hid h6
        have Hx7 := Lib.hid h7
        clear h1 h2 h3 h4 h5 h6 h7
        go_wp2_with fail
        refine hAdd.mono ?_
        rintro e w4 ⟨v4, rfl, hv4, hb4⟩
        obtain ⟨a4, c4, rfl⟩ := hv4.vshape
        have HK4 := Lib.hid (Keep.push (c := cS (fun _ => True) (.slice a4 J.length c4) J) (HK3.out.below hb4) hv4)
        clear hv4 hb4 hAdd HK3
        go_wp2_with fail
        have hD := objects_any a J _ _ _ _ w4 HK4.out.2.2.2.1 HK4.out.1
        rw [Hx2.out, Hx3.out] at hD
        refine hD.mono ?_
        rintro e w5 ⟨v5, rfl, hv5, hb5⟩
        obtain ⟨a5, c5, rfl⟩ := hv5.vshape
        have HK5 := Lib.hid (HK4.out.below hb5)
        clear hv5 hb5 hD HK4
        go_wp2_with fail
        have hD := objects_any b J _ _ _ _ w5 HK5.out.2.2.2.2.1 HK5.out.1
        rw [Hx4.out, Hx5.out] at hD
        refine hD.mono ?_
        rintro e w6 ⟨v6, rfl, hv6, hb6⟩
        obtain ⟨a6, c6, rfl⟩ := hv6.vshape
        have HK6 := Lib.hid (HK5.out.below hb6)
        clear hv6 hb6 hD HK5
        go_wp2_with fail
        have hD := objects_any J b _ _ _ _ w6 HK6.out.1 HK6.out.2.2.2.2.1
        rw [Hx6.out, Hx7.out] at hD
        refine hD.mono ?_
        rintro e w7 ⟨v7, rfl, hv7, hb7⟩
        obtain ⟨a7, c7, rfl⟩ := hv7.vshape
        have HK7 := Lib.hid (Keep.push (c := cS (fun _ => True) (.slice a7 (diffL a b).length c7) (diffL a b)) (HK6.out.below hb7) hv7)
        clear hv7 hb7 hD HK6
        have hS := sameStore_any (diffL a b) (diffL a b) _ _ _ _ w7 HK7.out.1 HK7.out.2.2.1
        rw [sameStore_refl] at hS
        have HS := Lib.hid hS
        have HB := Lib.hid HK7.out.2.2.2.1
        clear hS
        go_wp2_with fail
        refine HS.out.mono ?_
        rintro e w8 ⟨rfl, hb8⟩
        have HB2 := Lib.hid (below_next HB.out hb8)
        clear hb8 HK7 HB
        go_wp2_with fail
        go_ret
        exact ⟨rfl, HB2.out⟩
  · have ht0 : t = 0 := by rw [Ht.out, HdL.out h0]; rfl
    subst ht0
    have hq : (diffE a b == 0) = false := by simpa using h0
    have hq2 : (diffE a b != 0) = true := by simpa using h0
    have HB := Lib.hid HK3.out.2.1
    clear h0
    generalize diffE a b = c at *
    go_wp2_with fail
    go_ret
    exact ⟨rfl, HB.out⟩
end Go.Proofs.Ytipdlhjblfhnjaa
