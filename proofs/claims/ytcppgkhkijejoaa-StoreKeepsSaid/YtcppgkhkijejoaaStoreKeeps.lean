/- Walks: the law StoreKeeps. -/
import Derived.Test.YtcppgkhkijejoaaAppG
import Derived.Test.YtcppgkhkijejoaaStoreLaw
namespace Go.Proofs.Ytcppgkhkijejoaa
open Go.RowKit
set_option linter.unusedVariables false
set_option linter.unusedSimpArgs false

set_option maxRecDepth 100000 in
set_option maxHeartbeats 4000000 in
theorem storeKeeps_any (l more : List Obj) (lv mv : Value) (S S' : Nat → Prop) (w : World) (h : StoreV S w lv l) (hm : StoreV S' w mv more) :
    Calls Try.prog 14 #[lv, mv] w fun e w' => e = .returned (.bool true) ∧ Below w.heap.size w w' := by
  have HK0 := Lib.hid (show Keep [cB w, cS (fun b => S b ∧ b < w.heap.size) lv l, cS (fun b => S' b ∧ b < w.heap.size) mv more] w from ⟨Below.refl _ _, h.lt, hm.lt, trivial⟩)
  obtain ⟨la, lc, rfl⟩ := h.vshape
  obtain ⟨ma, mc, rfl⟩ := hm.vshape
  have HA := Lib.hid (add_any l more _ _ _ _ w HK0.out.2.1 HK0.out.2.2.1)
  clear h hm
  by_cases hz : addE l more = 0
  · have hok := add_ok hz
    have hlen : l.length ≤ 40 ∧ more.length ≤ 12 := ⟨(checkStore_zero hok.left).1, hok.many⟩
    have hwhole := (checkStore_zero hok.whole).1
    have Hfind := Lib.hid (fun x (hx : x ∈ l ++ more) => add_keeps hz (x := x) (List.mem_append.1 hx))
    have Hmem := Lib.hid (fun x (hx : x ∈ l ++ more) => ((add_ok hz).mem x).2 (List.mem_append.1 hx))
    have Hlink := Lib.hid (fun x (hx : x ∈ addL l more) k (hk : k < x.links.length) => links_there hok.whole hx hk)
    have Hagain := Lib.hid (add_again hz)
    have Hck := Lib.hid hok.whole
    have Hlen := Lib.hid (addL_length l more)
    rw [hz] at HA
    clear hok hz
    generalize addL l more = J at *
    go_enter Try.func14, Try.ntmps14
    go_wp2_with fail
    refine HA.out.mono ?_
    rintro e w1 ⟨v1, rfl, hv1, hb1⟩
    obtain ⟨a1, c1, rfl⟩ := hv1.vshape
    have HK1 := Lib.hid (Keep.push (c := cS (fun _ => True) (.slice a1 J.length c1) J) (HK0.out.below hb1) hv1)
    clear hv1 hb1 HK0 HA
    go_wp2_with fail
    refine (storeBegun_any _).mono ?_
    rintro e w2 ⟨rfl, hb2⟩
    have HK2 := Lib.hid (HK1.out.below hb2)
    clear hb2 HK1
    obtain ⟨g3, c3, w3, hap, hG3, hB3⟩ := append_objs 37 HK2.out.2.2.1 (by omega)
    have HK3 := Lib.hid (HK2.out.below hB3)
    have hs2 := HK2.out.2.1.size
    obtain ⟨v4, w4, hap4, hG4, hu4⟩ := append_gath 37 hG3.gath HK3.out.2.2.2.1 (fun b hb => ⟨by have := HK3.out.2.1.size; omega, fun e => by have := (hG3.gath.block e).1; omega⟩) (by omega) hB3.size
    have hB4 : Below w2.heap.size w2 w4 := hB3.trans (hu4.below (B := w2.heap.size) hB3.size (fun b hb => (hG3.gath.block hb).1))
    have hst4 := hG4.store (by rw [List.length_append]; omega)
    obtain ⟨a4, c4, hv4⟩ := hst4.vshape
    subst hv4
    have HK4 := Lib.hid (Keep.push (c := cS (fun _ => True) (.slice a4 (l ++ more).length c4) (l ++ more)) (HK2.out.below hB4) hst4)
    rw [List.length_append] at HK4 hap4
    have hN : l.length + more.length ≤ 52 := by omega
    have HN := Lib.hid (show (l ++ more).length = l.length + more.length from List.length_append)
    clear hG3 hB3 HK3 hs2 hG4 hu4 hB4 hst4 HK2
    go_wp2_with (first
      | (at_builtin; refine wpList_append_run rfl (.tmp 29) (.tmp 30) 37 rfl _ _ _ rfl rfl hap ?_)
      | (at_builtin; refine wpList_append_run rfl (.tmp 31) (.tmp 32) 37 rfl _ _ _ rfl rfl hap4 ?_))
    clear hap hap4
    generalize l ++ more = all at *
    obtain ⟨n, hn⟩ : ∃ n, n = l.length + more.length := ⟨_, rfl⟩
    rw [← hn] at HK4 hN HN Hlen
    rw [← hn]
    clear hn
    go_loopw [8] (fun i wr => ∃ k : Nat, k ≤ n ∧ i = .int .i64 k ∧ Hid (Keep [cS (fun _ => True) (.slice a4 n c4) all, cS (fun _ => True) (.slice a1 J.length c1) J, cB w, cS (fun b => S b ∧ b < w.heap.size) (.slice la l.length lc) l, cS (fun b => S' b ∧ b < w.heap.size) (.slice ma more.length mc) more] wr)) (fun i _ => n - (intOf i).toNat)
    case atStart => exact ⟨0, by omega, rfl, HK4.out⟩
    case round =>
      obtain ⟨k, hk, rfl, HK5⟩ := hrel
      obtain ⟨wo, rfl⟩ : ∃ wo : World, wo = wr := ⟨_, rfl⟩
      clear HK4
      by_cases hlt : k < n
      · have hmem : obj all k ∈ all := obj_mem (by have := HN.out; omega)
        have hf := Hfind.out _ hmem
        have hJm := Hmem.out _ hmem
        have HLk := Lib.hid (Hlink.out _ hJm)
        obtain ⟨b, off, p, c, e5, ⟨x0, x1, x2, x3⟩, ho⟩ := store_elem HK5.out.1 (i := k) (by have := HN.out; omega)
        cases e5
        clear x1 x2 x3 ho
        have hi1 : (0 : Int) ≤ (k : Int) := by omega
        have hi2 : (k : Int) < (n : Int) := by omega
        have hF := storeFind_any J (obj all k).id _ _ wo HK5.out.2.1
        rw [hf.1, hf.2] at hF
        have HF := Lib.hid hF
        clear hF hf hJm hmem
        go_wp2_with fail
        refine HF.out.mono ?_
        rintro e w6 ⟨v6, rfl, hv6, hb6⟩
        obtain ⟨⟨p3, c3⟩, rfl⟩ := hv6.1.shape
        have HK6 := Lib.hid (Keep.push (c := cO (fun _ => True) (obj all k) (.slice p3 (obj all k).links.length c3)) (HK5.out.below hb6) hv6)
        clear hv6 hb6 HK5 HF x0
        go_wp2_with fail
        have HK7 := Lib.hid (Keep.push (c := cH w6.heap.size (.cells #[.int .i64 (obj all k).id, .int .i64 (obj all k).kind, .slice p3 (obj all k).links.length c3, .string (obj all k).text] 24 (0, 0)))
          (HK6.out.alloc (.cells #[.int .i64 (obj all k).id, .int .i64 (obj all k).kind, .slice p3 (obj all k).links.length c3, .string (obj all k).text] 24)) (heap_alloc_new w6 _))
        clear HK6
        generalize w6.heap.size = B3 at *
        generalize w6.alloc _ = w7 at *
        obtain ⟨Q, hQ, hQ1, _⟩ := cls_plain w7
        have hQb := hQ.below
        have hQg := cls_grown hQ
        have y0 := fun x (hx : In Q x) => block_cell (j := 0) (Keep.below HK7.out (hQb _ hx)).1 rfl
        have y1 := fun x (hx : In Q x) => block_cell (j := 1) (Keep.below HK7.out (hQb _ hx)).1 rfl
        have y2 := fun x (hx : In Q x) => block_cell (j := 2) (Keep.below HK7.out (hQb _ hx)).1 rfl
        have y3 := fun x (hx : In Q x) => block_cell (j := 3) (Keep.below HK7.out (hQb _ hx)).1 rfl
        obtain ⟨b', off', p, c, e5, hat, ho⟩ := store_elem HK7.out.2.2.1 (i := k) (by have := HN.out; omega)
        cases e5
        have z0 := fun x (hx : In Q x) => (hat.below (hQb _ hx)).1
        have z1 := fun x (hx : In Q x) => (hat.below (hQb _ hx)).2.1
        have z2 := fun x (hx : In Q x) => (hat.below (hQb _ hx)).2.2.1
        have z3 := fun x (hx : In Q x) => (hat.below (hQb _ hx)).2.2.2
        have HSO := Lib.hid (fun x (hx : In Q x) => by
          have := sameObject_any (obj all k) (obj all k) _ _ _ _ x (HK7.out.2.1.below (hQb _ hx)) (ho.below (hQb _ hx))
          rw [(sameObj_iff _ _).2 rfl] at this; exact this)
        clear hat ho
        refine wp_region_quiet_below (by kernel_rfl) (by kernel_rfl) ?_
        repeat (quiet_step (exact Calls.regrown_of (HSO.out _ (hQg _ _ _ hQ1))))
        refine wpQuiet_nil ?_
        intro _ hw'
        obtain ⟨⟨dq, osq⟩, hw''⟩ := hw'
        subst hw''
        have hQ2 := hQg _ dq osq hQ1
        generalize Go.Sort.grow (redrawn _ dq) osq = w8 at *
        have HK8 := Lib.hid (HK7.out.below (hQb _ hQ2))
        clear y0 y1 y2 y3 z0 z1 z2 z3 HSO hQ1 HK7 hQ2 hQb hQg
        go_wp2_with fail
        go_loopw [11] (fun i wr => ∃ j : Nat, j ≤ (obj all k).links.length ∧ i = .int .i64 j ∧ Hid (Keep [cH B3 (.cells #[.int .i64 (obj all k).id, .int .i64 (obj all k).kind, .slice p3 (obj all k).links.length c3, .string (obj all k).text] 24 (0, 0)), cO (fun _ => True) (obj all k) (.slice p3 (obj all k).links.length c3), cS (fun _ => True) (.slice (some ⟨b, off, none⟩) n c4) all, cS (fun _ => True) (.slice a1 J.length c1) J, cB w, cS (fun b => S b ∧ b < w.heap.size) (.slice la l.length lc) l, cS (fun b => S' b ∧ b < w.heap.size) (.slice ma more.length mc) more] wr)) (fun i _ => (obj all k).links.length - (intOf i).toNat)
        case atStart => exact ⟨0, by omega, rfl, HK8.out⟩
        case round =>
          obtain ⟨j, hj, rfl, HK9⟩ := hrel
          clear HK8
          obtain ⟨wi, rfl⟩ : ∃ wi : World, wi = wr := ⟨_, rfl⟩
          have y2 := block_cell (j := 2) HK9.out.1 rfl
          have hlk63 : (obj all k).links.length ≤ 9223372036854775807 := by
            obtain ⟨⟨_, cap, e, h1, h2, _⟩, _⟩ := HK9.out.2.1.1
            omega
          by_cases hjl : j < (obj all k).links.length
          · have hfl := HLk.out j hjl
            obtain ⟨aL, nL, capL, HNL, eL, _, _, _, hcL⟩ := HK9.out.2.1.1.open
            injection eL with e1 e2 e3
            obtain ⟨bL, offL, rfl, _, hcell⟩ := hcL (by have := HNL.out; omega)
            have hv := hcell j wi (by have := HNL.out; omega) (Below.refl _ _)
            have hF := storeFind_any J (nth (obj all k).links j) _ _ wi HK9.out.2.2.2.1
            rw [hfl] at hF
            have HF := Lib.hid hF
            subst e1
            have hi3 : (0 : Int) ≤ (j : Int) := by omega
            have hi4 : (j : Int) < ((obj all k).links.length : Int) := by omega
            clear hF hfl hcell hcL HNL e2 e3
            go_wp2_with fail
            refine HF.out.mono ?_
            rintro e w9 ⟨v9, rfl, hv9, hb9⟩
            obtain ⟨⟨p9, c9⟩, rfl⟩ := hv9.1.shape
            have HK10 := Lib.hid (HK9.out.below hb9)
            clear hv9 hb9 HK9 HF y2 hv
            generalize findO J (nth (obj all k).links j) = fo at *
            go_wp2_with fail
            have HK11 := Lib.hid (HK10.out.alloc (.cells #[.int .i64 fo.id, .int .i64 fo.kind, .slice p9 fo.links.length c9, .string fo.text] 24))
            clear HK10
            go_roundw
            case rel => exact ⟨j + 1, by omega, by go_num, HK11.out⟩
            case measure => simp [intOf]; omega
          · obtain rfl : j = (obj all k).links.length := by omega
            go_wp2_with fail
            go_roundw
            case rel => exact ⟨k + 1, by omega, by go_num, HK9.out.2.2⟩
            case measure => simp [intOf]; omega
      · obtain rfl : k = n := by omega
        have hA := add_any J more _ _ _ _ wo HK5.out.2.1 HK5.out.2.2.2.2.1
        rw [Hagain.out.1, Hagain.out.2] at hA
        have HA := Lib.hid hA
        have hlen2 := Hlen.out
        have hle : (J.length : Int) ≤ (k : Int) := by omega
        clear hA
        go_wp2_with fail
        refine HA.out.mono ?_
        rintro e w6 ⟨v6, rfl, hv6, hb6⟩
        obtain ⟨a6, c6, rfl⟩ := hv6.vshape
        have HK6 := Lib.hid (Keep.push (c := cS (fun _ => True) (.slice a6 J.length c6) J) (HK5.out.below hb6) hv6)
        have hC := storeCheck_any J _ _ w6 HK6.out.2.2.1
        rw [Hck.out] at hC
        have HC := Lib.hid hC
        clear hv6 hb6 HK5 HA hC
        go_wp2_with fail
        refine HC.out.mono ?_
        rintro e w7 ⟨rfl, hb7⟩
        have HK7 := Lib.hid (HK6.out.below hb7)
        have hSS := sameStore_any J J _ _ _ _ w7 HK7.out.2.2.1 HK7.out.1
        rw [sameStore_refl] at hSS
        have HSS := Lib.hid hSS
        clear hb7 HK6 hSS
        go_wp2_with fail
        refine HSS.out.mono ?_
        rintro e w8 ⟨rfl, hb8⟩
        have HB8 := Lib.hid (below_next HK7.out.2.2.2.1 hb8)
        clear hb8 HK7 HSS
        go_wp2_with fail
        go_ret
        exact ⟨rfl, HB8.out⟩
  · have HL := Lib.hid (addL_not hz)
    have hq : (addE l more != 0) = true := by simpa using hz
    rw [HL.out] at HA
    generalize addE l more = E at *
    clear hz
    go_enter Try.func14, Try.ntmps14
    go_wp2_with fail
    refine HA.out.mono ?_
    rintro e w1 ⟨v1, rfl, hv1, hb1⟩
    obtain ⟨a1, c1, rfl⟩ := hv1.vshape
    have HB1 := Lib.hid hb1
    clear hv1 hb1
    go_wp2_with fail
    refine (storeBegun_any _).mono ?_
    rintro e w2 ⟨rfl, hb2⟩
    have HB2 := Lib.hid (below_next HB1.out hb2)
    clear hb2
    go_wp2_with fail
    go_ret
    exact ⟨rfl, HB2.out⟩
end Go.Proofs.Ytcppgkhkijejoaa
