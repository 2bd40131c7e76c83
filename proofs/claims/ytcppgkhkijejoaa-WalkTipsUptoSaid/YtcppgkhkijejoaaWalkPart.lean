
/- Walks: the law WalkPart. -/
import Derived.Test.YtcppgkhkijejoaaRefB
import Derived.Test.YtcppgkhkijejoaaWalkLaw
namespace Go.Proofs.Ytcppgkhkijejoaa
open Go.RowKit
set_option linter.unusedVariables false
set_option linter.unusedSimpArgs false

theorem partRes_eq {l : List Obj} {tips : List Int} (h : thereErr l tips = 0) : partOf l tips = partRes l tips := by unfold partRes; rw [if_pos h]

set_option maxRecDepth 100000 in
set_option maxHeartbeats 4000000 in
theorem walkPart_any (l : List Obj) (tips : List Int) (old : Int) (lv tv : Value) (S S' : Nat → Prop) (w : World) (h : StoreV S w lv l) (ht : IntsV S' w tv tips) (ho : I64 old) :
    Calls Try.prog 16 #[lv, tv, .int .i64 old] w fun e w' => e = .returned (.bool true) ∧ Below w.heap.size w w' := by
  have HK0 := Lib.hid (show Keep [cB w, cS S lv l, cI S' tv tips] w from ⟨Below.refl _ _, h, ht, trivial⟩)
  have HP := Lib.hid (part_any l tips _ _ _ _ w HK0.out.2.1 HK0.out.2.2.1)
  obtain ⟨la, lc, rfl⟩ := h.vshape
  obtain ⟨ta, n, tc, HN, rfl, h1, h2, h3, h4⟩ := ht.open
  have Hn := Lib.hid HN.out
  clear h ht h4 HN
  by_cases hz : thereErr l tips = 0
  · have hR := right_of (there_zero hz).1
    have hres := partRes_eq hz
    rw [hz, ← hres] at HP
    have Hck := Lib.hid (store_of (part_right (tips := tips) hR))
    have Hagain := Lib.hid (show partRes (partOf l tips) tips = partOf l tips ∧ thereErr (partOf l tips) tips = 0 from ⟨by rw [← partRes_eq (part_there hz), part_again hR], part_there hz⟩)
    have Htip := Lib.hid (fun t (ht : t ∈ tips) => (part_tips hz ht).2)
    have Hbeh := Lib.hid (fun t (ht : t ∈ tips) h1 h2 => part_behind (old := old) hz ht h1 h2)
    clear hR hres hz
    generalize partOf l tips = p at *
    go_enter Try.func16, Try.ntmps16
    go_wp2_with fail
    refine HP.out.mono ?_
    rintro e w1 ⟨v1, rfl, hv1, hb1⟩
    obtain ⟨a1, c1, rfl⟩ := hv1.vshape
    have HK1 := Lib.hid (Keep.push (c := cS (fun _ => True) (.slice a1 p.length c1) p) (HK0.out.below hb1) hv1)
    clear hv1 hb1 HK0 HP
    go_wp2_with fail
    refine (walkBegun_any _).mono ?_
    rintro e w2 ⟨rfl, hb2⟩
    have HK2 := Lib.hid (HK1.out.below hb2)
    clear hb2 HK1
    go_wp2_with fail
    refine (storeBegun_any _).mono ?_
    rintro e w3 ⟨rfl, hb3⟩
    have HK3 := Lib.hid (HK2.out.below hb3)
    have hP2 := part_any p tips _ _ _ _ w3 HK3.out.1 HK3.out.2.2.2.1
    rw [Hagain.out.1, Hagain.out.2] at hP2
    have HP2 := Lib.hid hP2
    clear hb3 HK2 hP2
    go_wp2_with fail
    refine HP2.out.mono ?_
    rintro e w4 ⟨v4, rfl, hv4, hb4⟩
    obtain ⟨a4, c4, rfl⟩ := hv4.vshape
    have HK4 := Lib.hid (Keep.push (c := cS (fun _ => True) (.slice a4 p.length c4) p) (HK3.out.below hb4) hv4)
    have hC := storeCheck_any p _ _ w4 HK4.out.2.1
    rw [Hck.out] at hC
    have HC := Lib.hid hC
    clear hv4 hb4 HK3 HP2 hC
    go_wp2_with fail
    refine HC.out.mono ?_
    rintro e w5 ⟨rfl, hb5⟩
    have HK5 := Lib.hid (HK4.out.below hb5)
    have hSS := sameStore_any p p _ _ _ _ w5 HK5.out.2.1 HK5.out.1
    rw [sameStore_refl] at hSS
    have HSS := Lib.hid hSS
    clear hb5 HK4 HC hSS
    go_wp2_with fail
    refine HSS.out.mono ?_
    rintro e w6 ⟨rfl, hb6⟩
    have HK6 := Lib.hid (HK5.out.below hb6)
    clear hb6 HK5 HSS
    go_wp2_with fail
    go_loopw [11] (fun i wr => ∃ k : Nat, k ≤ n ∧ i = .int .i64 k ∧ Hid (Keep [cS (fun _ => True) (.slice a4 p.length c4) p, cS (fun _ => True) (.slice a1 p.length c1) p, cB w, cS S (.slice la l.length lc) l, cI S' (.slice ta n tc) tips] wr)) (fun i _ => n - (intOf i).toNat)
    case atStart => exact ⟨0, by omega, rfl, HK6.out⟩
    case round =>
      obtain ⟨k, hk, rfl, HK7⟩ := hrel
      clear HK6
      by_cases hlt : k < n
      · have hmem : nth tips k ∈ tips := at_mem (by have := Hn.out; omega)
        obtain ⟨aL, nL, capL, HNL, eL, _, _, _, hcL⟩ := HK7.out.2.2.2.2.1.open
        injection eL with e1 e2 e3
        obtain ⟨bL, offL, rfl, _, hcell⟩ := hcL (by omega)
        have hv := fun x hb => hcell k x (by omega) hb
        subst e1
        have hv0 := hv wr (Below.refl _ _)
        have hi1 : (0 : Int) ≤ (k : Int) := by omega
        have hi2 : (k : Int) < (n : Int) := by omega
        have hI := HK7.out.2.2.2.2.1.i64 k (by have := Hn.out; omega)
        have HB := Lib.hid (behind_any l old (nth tips k) _ _ wr HK7.out.2.2.2.1 ho hI)
        have ht1 := Htip.out _ hmem
        have HBeh := Lib.hid (Hbeh.out _ hmem)
        clear hcell hcL HNL e2 e3 hmem hI
        go_wp2_with fail
        refine HB.out.mono ?_
        rintro e w7 ⟨rfl, hb7⟩
        have HK8 := Lib.hid (HK7.out.below hb7)
        have hv1 := hv w7 hb7
        have HA := Lib.hid (objectAt_any p _ _ (nth tips k) w7 HK8.out.2.1)
        have HA2 := Lib.hid (objectAt_any p _ _ old w7 HK8.out.2.1)
        clear hb7 HK7 HB hv hv0
        generalize nth tips k = t at *
        generalize hat : atOf p t = at1 at *
        have hge : ¬ at1 < 0 := by omega
        generalize atOf p old = at2 at *
        clear hat
        generalize behindErr l old t = be at *
        generalize behindRes l old t = br at *
        by_cases hbe : be = 0
        · have q1 : (be == 0) = true := by simpa using hbe
          have HB0 := Lib.hid (HBeh.out hbe)
          clear hbe
          cases br
          · go_wp2_with fail
            refine HA.out.mono ?_
            rintro e w8 ⟨rfl, rfl⟩
            go_wp2_with fail
            go_roundw
            case rel => exact ⟨k + 1, by omega, by go_num, HK8.out⟩
            case measure => simp [intOf]; omega
          · have hge2 : ¬ at2 < 0 := by have := HB0.out rfl; omega
            go_wp2_with fail
            refine HA.out.mono ?_
            rintro e w8 ⟨rfl, rfl⟩
            go_wp2_with fail
            refine HA2.out.mono ?_
            rintro e w8 ⟨rfl, rfl⟩
            go_wp2_with fail
            go_roundw
            case rel => exact ⟨k + 1, by omega, by go_num, HK8.out⟩
            case measure => simp [intOf]; omega
        · have q1 : (be == 0) = false := by simpa using hbe
          clear hbe
          go_wp2_with fail
          refine HA.out.mono ?_
          rintro e w8 ⟨rfl, rfl⟩
          go_wp2_with fail
          go_roundw
          case rel => exact ⟨k + 1, by omega, by go_num, HK8.out⟩
          case measure => simp [intOf]; omega
      · obtain rfl : k = n := by omega
        go_wp2_with fail
        go_ret
        exact ⟨rfl, HK7.out.2.2.1⟩
  · have hq : (thereErr l tips != 0) = true := by simpa using hz
    have hres : partRes l tips = [] := by unfold partRes; rw [if_neg hz]
    rw [hres] at HP
    generalize thereErr l tips = te at *
    clear hz hres
    go_enter Try.func16, Try.ntmps16
    go_wp2_with fail
    refine HP.out.mono ?_
    rintro e w1 ⟨v1, rfl, hv1, hb1⟩
    obtain ⟨a1, c1, rfl⟩ := hv1.vshape
    have HB1 := Lib.hid hb1
    clear hv1 hb1
    go_wp2_with fail
    refine (walkBegun_any _).mono ?_
    rintro e w2 ⟨rfl, hb2⟩
    have HB2 := Lib.hid (below_next HB1.out hb2)
    clear hb2
    go_wp2_with fail
    refine (storeBegun_any _).mono ?_
    rintro e w3 ⟨rfl, hb3⟩
    have HB3 := Lib.hid (below_next HB2.out hb3)
    clear hb3
    go_wp2_with fail
    go_ret
    exact ⟨rfl, HB3.out⟩
end Go.Proofs.Ytcppgkhkijejoaa
