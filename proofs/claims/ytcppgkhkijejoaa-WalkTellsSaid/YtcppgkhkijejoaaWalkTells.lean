/- Walks: the law WalkTells. -/
import Derived.Test.YtcppgkhkijejoaaWalk9
namespace Go.Proofs.Ytcppgkhkijejoaa
open Go.RowKit
set_option linter.unusedVariables false
set_option linter.unusedSimpArgs false

theorem partOf_res {l : List Obj} {tips : List Int} (h : thereErr l tips = 0) : partOf l tips = partRes l tips := by unfold partRes; rw [if_pos h]

set_option maxRecDepth 100000 in
set_option maxHeartbeats 8000000 in
theorem walkTells_any (l : List Obj) (tips : List Int) (old newer : Int) (lv tv : Value) (S S' : Nat → Prop) (w : World) (h : StoreV S w lv l) (ht : IntsV S' w tv tips) (ho : I64 old) (hn : I64 newer) :
    Calls Try.prog 9 #[lv, tv, .int .i64 old, .int .i64 newer] w fun e w' => e = .returned (.bool true) ∧ Below w.heap.size w w' := by
  obtain ⟨R, hR, hR1, _⟩ := cls_plain w
  have hRb := hR.below
  have hRn := hR.next
  have hRa := hR.alloc
  have Hre := Lib.hid (fun x (hx : In R x) => reach_any l tips _ _ S S' x (h.below (hRb _ hx)) (ht.below (hRb _ hx)))
  have Hpa := Lib.hid (fun x (hx : In R x) => part_any l tips _ _ S S' x (h.below (hRb _ hx)) (ht.below (hRb _ hx)))
  have Hbe := Lib.hid (fun x (hx : In R x) => behind_any l old newer _ S x (h.below (hRb _ hx)) ho hn)
  have Hct := Lib.hid (fun x (hx : In R x) => checkThere_any l tips _ _ S S' x (h.below (hRb _ hx)) (ht.below (hRb _ hx)))
  have Hct2 := Lib.hid (fun x (hx : In R x) => checkThere_any l [old, newer] lv _ S _ (x.alloc (.cells #[.int .i64 old, .int .i64 newer] 3)) (h.below (hRb _ (hRa _ _ hx))) (ints_new x [old, newer] 3 x.heap.size rfl (by simp) (by intro x hx; simp only [List.mem_cons, List.not_mem_nil, or_false] at hx; rcases hx with rfl | rfl; exact ho; exact hn)))
  have Hpo := Lib.hid (fun x (hx : In R x) (hz : thereErr l tips = 0) => by have := partOf_any l tips _ _ S S' x (h.below (hRb _ hx)) (ht.below (hRb _ hx)) hz; rw [partOf_res hz] at this; exact this)
  have Hk1 := Lib.hid (fun x (hx : In R x) => kindOf_any l _ S old x (h.below (hRb _ hx)))
  have Hk2 := Lib.hid (fun x (hx : In R x) => kindOf_any l _ S newer x (h.below (hRb _ hx)))
  have Hib := Lib.hid (fun x (hx : In R x) (hz : thereErr l [old, newer] = 0) => isBehind_any l old newer _ S x (h.below (hRb _ hx)) (right_of (there_zero hz).1) ((there_zero hz).2 old (by simp)) ((there_zero hz).2 newer (by simp)) hn)
  have Hbd := Lib.hid (show behindErr l old newer = (if thereErr l [old, newer] ≠ 0 then thereErr l [old, newer] else if kindOf l old ≠ 3 ∨ kindOf l newer ≠ 3 then 7 else 0) ∧ behindRes l old newer = (if behindErr l old newer = 0 then behindB l old newer else false) from ⟨rfl, rfl⟩)
  have Hpn := Lib.hid (fun (hz : thereErr l tips ≠ 0) => show partRes l tips = [] by unfold partRes; rw [if_neg hz])
  have hlen := partRes_length l tips
  obtain ⟨sa, sc, rfl⟩ := h.vshape
  obtain ⟨⟨tp, tc⟩, rfl⟩ := ht.shape
  clear h ht
  generalize partRes l tips = pl at *
  generalize thereErr l tips = te at *
  have qte : (te == te) = true := by simp
  have Hsi := Lib.hid (show storeIsB pl te te pl = true from (storeIsB_same pl te).2 (by
    by_cases hz : te = 0
    · exact .inl hz
    · exact .inr (Hpn.out hz)))
  go_enter Try.func9, Try.ntmps9
  go_wp2_with fail
  refine (Hre.out _ hR1).mono ?_
  rintro e w1 ⟨v1, rfl, hv1, hb1⟩
  have hR2 := hRn _ _ hR1 hb1
  obtain ⟨⟨p1, c1⟩, rfl⟩ := hv1.shape
  have Hv1 := Lib.hid hv1
  clear hv1 hb1
  go_wp2_with fail
  refine (Hpa.out _ hR2).mono ?_
  rintro e w2 ⟨v2, rfl, hv2, hb2⟩
  have hR3 := hRn _ _ hR2 hb2
  obtain ⟨p2, c2, rfl⟩ := hv2.vshape
  have Hv2 := Lib.hid (show IntsV (fun _ => True) w2 _ (pl.map (·.id)) ∧ StoreV (fun _ => True) w2 _ pl from ⟨Hv1.out.below hb2, hv2⟩)
  clear hv2 hb2 Hv1
  go_wp2_with fail
  refine (Hbe.out _ hR3).mono ?_
  rintro e w3 ⟨rfl, hb3⟩
  have hR4 := hRn _ _ hR3 hb3
  go_wp2_with fail
  refine (Hct.out _ hR4).mono ?_
  rintro e w4 ⟨rfl, hb4⟩
  have hR5 := hRn _ _ hR4 hb4
  go_wp2_with fail
  refine (Hct2.out _ hR5).mono ?_
  rintro e w5 ⟨rfl, hb5⟩
  have hR6 := hRn _ _ (hRa _ _ hR5) hb5
  have Hb25 := Lib.hid (below_next (below_next hb3 hb4) (below_next ((Below.refl w4.heap.size w4).alloc (Nat.le_refl _) _) hb5))
  clear hb3 hb4 hb5
  go_upto_if 49 with fail
  go_cut [17] (fun s17 wx => ∃ (a17 : Option Addr) (c17 : Nat) (x : World), s17 = .slice a17 pl.length c17 ∧ x = wx ∧ In R x ∧ Hid (StoreV (fun _ => True) x (.slice a17 pl.length c17) pl ∧ Below w5.heap.size w5 x))
  case first =>
    by_cases hz : te = 0
    · have hz' : (te == 0) = true := by simpa using hz
      have HP := Lib.hid (fun x hx => Hpo.out x hx hz)
      clear hz
      go_wp2_with fail
      refine (HP.out _ hR6).mono ?_
      rintro e w6 ⟨v6, rfl, hv6, hb6⟩
      obtain ⟨p6, c6, rfl⟩ := hv6.vshape
      go_wp2_with fail
      go_meet
      exact ⟨_, _, _, rfl, rfl, hRn _ _ hR6 hb6, hv6, hb6⟩
    · have hz' : (te == 0) = false := by simpa using hz
      have hpl := Hpn.out hz
      subst hpl
      clear hz
      go_wp2_with fail
      go_meet
      exact ⟨none, 0, _, rfl, rfl, hR6, StoreV.nil _ _ _ _ (by omega), Below.refl _ _⟩
  case rest =>
    obtain ⟨a17, c17, w6, rfl, rfl, hR7, HP6⟩ := hcut
    clear hR1 hR2 hR3 hR4 hR5 hR6
    go_wp2_with fail
    obtain ⟨a7, n, c7, la, ln, lc, HN, e7, g1, g2, g3, g4, g5⟩ := HP6.out.1.open
    have Hi64 := Lib.hid (show ∀ z ∈ pl.map (·.id), I64 z from fun z hz => by
      rw [List.mem_map] at hz
      obtain ⟨o, ho, rfl⟩ := hz
      obtain ⟨i, hi, rfl⟩ := List.getElem_of_mem ho
      have := (g5 i (by rw [HN.out.1]; exact hi)).2.1
      rwa [obj_lt hi] at this)
    cases e7
    have Hn : Hid (∃ n, n = pl.length) := ⟨_, rfl⟩
    have HP25 := Lib.hid (below_next Hb25.out HP6.out.2)
    have HS6 := Lib.hid HP6.out.1
    have HB6 := Lib.hid (hRb _ hR7)
    obtain ⟨Q, hQ, hQ1, hQall⟩ := cls_plain w6
    have hQb := hQ.below
    have hQn := hQ.next
    clear g5 HN HP6
    generalize hpn : pl.length = n at *
    have Hpl := Lib.hid hpn
    clear hpn
    go_loopw [18, 19] (fun v i wr => ∃ k : Nat, k ≤ n ∧ i = .int .i64 k ∧ Hid (wr.ownsRow w6.heap.size 3 1 v k (idCells pl k)) ∧ In Q wr) (fun _ i _ => n - (intOf i).toNat)
    case atStart => exact ⟨0, by omega, rfl, World.ownsRow_nil _ _ _ _, hQ1⟩
    case round =>
      obtain ⟨k, hk, rfl, HG, hQw⟩ := hrel
      clear hQ1
      by_cases hlt : k < n
      · obtain ⟨b, off, rfl, hb, k0, k1, k2, k3⟩ := g4 (by omega)
        have x0 := k0 k wr hlt (hQb _ hQw)
        obtain ⟨va, vc, hvs⟩ := own_shape HG.out
        subst hvs
        have hbs := (hQb _ hQw).size
        clear k0 k1 k2 k3 g4
        go_wp2_with (at_builtin; refine wpList_append_int rfl _ _ rfl HG.out (by omega) hbs rfl rfl (by first | rfl | simp) ?_)
        intro v' w8 hG5 hu5
        have hQ5 : In Q w8 := hQall _ ((hQb _ hQw).trans (hu5.below (B := w6.heap.size) hbs (fun b hb => (HG.out.lt b hb).1)))
        rw [reach_next (by have := Hpl.out; omega)] at hG5
        obtain ⟨va', vc', hvs'⟩ := own_shape hG5
        subst hvs'
        have HG5 := Lib.hid hG5
        clear hG5 hu5 x0
        go_wp2_with fail
        go_roundw
        case rel => exact ⟨k + 1, by omega, by go_num, HG5, hQ5⟩
        case measure => simp [intOf]; omega
      · obtain rfl : k = n := by omega
        obtain ⟨va, vc, hvs⟩ := own_shape HG.out
        have HG0 := HG.out
        rw [show idCells pl k = (pl.map (·.id)).map (Value.int .i64) by unfold idCells; rw [List.take_of_length_le (by have := Hpl.out; omega)]] at HG0
        have hI := (own_ints' (zs := pl.map (·.id)) HG0 (by rw [List.length_map]; exact Hpl.out.symm) Hi64.out (by omega)).weaken (S' := fun _ => True) (fun _ _ => trivial)
        have hR8 := hRn _ _ hR7 (hQb _ hQw)
        have hB28 := below_next HP25.out (hQb _ hQw)
        have hV1 := Hv2.out.1.below hB28
        rw [List.length_map, Hpl.out] at hV1
        have HV := Lib.hid (show IntsV (fun _ => True) wr _ (pl.map (·.id)) ∧ StoreV (fun _ => True) wr _ pl ∧ IntsV (fun _ => True) wr _ (pl.map (·.id)) ∧ StoreV (fun _ => True) wr _ pl from ⟨hV1, Hv2.out.2.below hB28, hI, HS6.out.below (hQb _ hQw)⟩)
        clear hV1
        subst hvs
        clear HG0 hI hB28 HG hQw hQb hQn hQall g4 HS6 HP25 HB6 hR7
        by_cases hz2 : thereErr l [old, newer] = 0
        · have HK1 := Lib.hid (Hk1.out _ hR8)
          have HK2 := Lib.hid (Hk2.out _ hR8)
          have HIB := Lib.hid (Hib.out _ hR8 hz2)
          have q0 : (thereErr l [old, newer] == 0) = true := by simpa using hz2
          have HB1 := Lib.hid (show behindErr l old newer = (if kindOf l old ≠ 3 ∨ kindOf l newer ≠ 3 then 7 else 0) by rw [Hbd.out.1, if_neg (by simp [hz2])])
          have HB2 := Lib.hid Hbd.out.2
          clear hz2 Hbd
          generalize kindOf l old = ko at *
          generalize kindOf l newer = kn at *
          generalize thereErr l [old, newer] = t2 at *
          by_cases h1 : ko = 3
          · have r1 : (ko != 3) = false := by simpa using h1
            by_cases h2 : kn = 3
            · have r2 : (kn != 3) = false := by simpa using h2
              have e1 : behindErr l old newer = 0 := by rw [HB1.out, if_neg (by simp [h1, h2])]
              have e2 : behindRes l old newer = behindB l old newer := by rw [HB2.out, if_pos e1]
              have q3 : (behindErr l old newer == t2) = true := by
                have h0 : t2 = 0 := by simpa using q0
                rw [e1, h0]; rfl
              have q4 : (behindRes l old newer == behindB l old newer) = true := by rw [e2]; simp
              clear e1 e2 h1 h2
              go_wp2_with fail
              refine HK1.out.mono ?_
              rintro e w8 ⟨rfl, rfl⟩
              go_wp2_with fail
              refine HK2.out.mono ?_
              rintro e w8 ⟨rfl, rfl⟩
              go_wp2_with fail
              refine HIB.out.mono ?_
              rintro e w8 ⟨rfl, hb8⟩
              have hR8' := hRn _ _ hR8 hb8
              have HV8 := Lib.hid (show IntsV (fun _ => True) w8 _ (pl.map (·.id)) ∧ StoreV (fun _ => True) w8 _ pl ∧ IntsV (fun _ => True) w8 _ (pl.map (·.id)) ∧ StoreV (fun _ => True) w8 _ pl from ⟨HV.out.1.below hb8, HV.out.2.1.below hb8, HV.out.2.2.1.below hb8, HV.out.2.2.2.below hb8⟩)
              clear hb8
              go_wp2_with fail
              refine (walkBegun_any _).mono ?_
              rintro e w9 ⟨rfl, hb9⟩
              have hR9 := hRn _ _ hR8' hb9
              have Hv9 := Lib.hid (show IntsV (fun _ => True) w9 _ (pl.map (·.id)) ∧ StoreV (fun _ => True) w9 _ pl ∧ IntsV (fun _ => True) w9 _ (pl.map (·.id)) ∧ StoreV (fun _ => True) w9 _ pl from ⟨HV8.out.1.below hb9, HV8.out.2.1.below hb9, HV8.out.2.2.1.below hb9, HV8.out.2.2.2.below hb9⟩)
              clear hb9
              go_wp2_with fail
              refine (sameInts_any (pl.map (·.id)) (pl.map (·.id)) _ _ _ _ _ Hv9.out.1 Hv9.out.2.2.1).mono ?_
              rintro e w10 ⟨rfl, hb10⟩
              have hR10 := hRn _ _ hR9 hb10
              have Hv10 := Lib.hid (show StoreV (fun _ => True) w10 _ pl ∧ StoreV (fun _ => True) w10 _ pl from ⟨Hv9.out.2.1.below hb10, Hv9.out.2.2.2.below hb10⟩)
              rw [show sameInts (pl.map (·.id)) (pl.map (·.id)) = true by simp [sameInts]]
              clear hb10 Hv9
              go_wp2_with fail
              refine (storeIs_any pl pl te te _ _ _ _ _ Hv10.out.1 Hv10.out.2).mono ?_
              rintro e w11 ⟨rfl, hb11⟩
              have hR11 := hRn _ _ hR10 hb11
              rw [Hsi.out]
              clear hb11 Hv10
              go_wp2_with fail
              go_ret
              exact ⟨rfl, hRb _ hR11⟩
            · have r2 : (kn != 3) = true := by simpa using h2
              have e1 : behindErr l old newer = 7 := by rw [HB1.out, if_pos (.inr h2)]
              have e2 : behindRes l old newer = false := by rw [HB2.out, if_neg (by rw [e1]; decide)]
              rw [e1, e2]
              clear e1 e2 h1 h2
              go_wp2_with fail
              refine HK1.out.mono ?_
              rintro e w8 ⟨rfl, rfl⟩
              go_wp2_with fail
              refine HK2.out.mono ?_
              rintro e w8 ⟨rfl, rfl⟩
              go_wp2_with fail
              refine (walkBegun_any _).mono ?_
              rintro e w9 ⟨rfl, hb9⟩
              have hR9 := hRn _ _ hR8 hb9
              have Hv9 := Lib.hid (show IntsV (fun _ => True) w9 _ (pl.map (·.id)) ∧ StoreV (fun _ => True) w9 _ pl ∧ IntsV (fun _ => True) w9 _ (pl.map (·.id)) ∧ StoreV (fun _ => True) w9 _ pl from ⟨HV.out.1.below hb9, HV.out.2.1.below hb9, HV.out.2.2.1.below hb9, HV.out.2.2.2.below hb9⟩)
              clear hb9
              go_wp2_with fail
              refine (sameInts_any (pl.map (·.id)) (pl.map (·.id)) _ _ _ _ _ Hv9.out.1 Hv9.out.2.2.1).mono ?_
              rintro e w10 ⟨rfl, hb10⟩
              have hR10 := hRn _ _ hR9 hb10
              have Hv10 := Lib.hid (show StoreV (fun _ => True) w10 _ pl ∧ StoreV (fun _ => True) w10 _ pl from ⟨Hv9.out.2.1.below hb10, Hv9.out.2.2.2.below hb10⟩)
              rw [show sameInts (pl.map (·.id)) (pl.map (·.id)) = true by simp [sameInts]]
              clear hb10 Hv9
              go_wp2_with fail
              refine (storeIs_any pl pl te te _ _ _ _ _ Hv10.out.1 Hv10.out.2).mono ?_
              rintro e w11 ⟨rfl, hb11⟩
              have hR11 := hRn _ _ hR10 hb11
              rw [Hsi.out]
              clear hb11 Hv10
              go_wp2_with fail
              go_ret
              exact ⟨rfl, hRb _ hR11⟩
          · have r1 : (ko != 3) = true := by simpa using h1
            have e1 : behindErr l old newer = 7 := by rw [HB1.out, if_pos (.inl h1)]
            have e2 : behindRes l old newer = false := by rw [HB2.out, if_neg (by rw [e1]; decide)]
            rw [e1, e2]
            clear e1 e2 h1
            go_wp2_with fail
            refine HK1.out.mono ?_
            rintro e w8 ⟨rfl, rfl⟩
            go_wp2_with fail
            refine (walkBegun_any _).mono ?_
            rintro e w9 ⟨rfl, hb9⟩
            have hR9 := hRn _ _ hR8 hb9
            have Hv9 := Lib.hid (show IntsV (fun _ => True) w9 _ (pl.map (·.id)) ∧ StoreV (fun _ => True) w9 _ pl ∧ IntsV (fun _ => True) w9 _ (pl.map (·.id)) ∧ StoreV (fun _ => True) w9 _ pl from ⟨HV.out.1.below hb9, HV.out.2.1.below hb9, HV.out.2.2.1.below hb9, HV.out.2.2.2.below hb9⟩)
            clear hb9
            go_wp2_with fail
            refine (sameInts_any (pl.map (·.id)) (pl.map (·.id)) _ _ _ _ _ Hv9.out.1 Hv9.out.2.2.1).mono ?_
            rintro e w10 ⟨rfl, hb10⟩
            have hR10 := hRn _ _ hR9 hb10
            have Hv10 := Lib.hid (show StoreV (fun _ => True) w10 _ pl ∧ StoreV (fun _ => True) w10 _ pl from ⟨Hv9.out.2.1.below hb10, Hv9.out.2.2.2.below hb10⟩)
            rw [show sameInts (pl.map (·.id)) (pl.map (·.id)) = true by simp [sameInts]]
            clear hb10 Hv9
            go_wp2_with fail
            refine (storeIs_any pl pl te te _ _ _ _ _ Hv10.out.1 Hv10.out.2).mono ?_
            rintro e w11 ⟨rfl, hb11⟩
            have hR11 := hRn _ _ hR10 hb11
            rw [Hsi.out]
            clear hb11 Hv10
            go_wp2_with fail
            go_ret
            exact ⟨rfl, hRb _ hR11⟩
        · have q0 : (thereErr l [old, newer] == 0) = false := by simpa using hz2
          have e1 : behindErr l old newer = thereErr l [old, newer] := by rw [Hbd.out.1, if_pos hz2]
          have e2 : behindRes l old newer = false := by rw [Hbd.out.2, if_neg (by rw [e1]; exact hz2)]
          rw [e1, e2]
          clear e1 e2 hz2 Hbd
          generalize thereErr l [old, newer] = t2 at *
          have q3 : (t2 == t2) = true := by simp
          go_wp2_with fail
          refine (walkBegun_any _).mono ?_
          rintro e w9 ⟨rfl, hb9⟩
          have hR9 := hRn _ _ hR8 hb9
          have Hv9 := Lib.hid (show IntsV (fun _ => True) w9 _ (pl.map (·.id)) ∧ StoreV (fun _ => True) w9 _ pl ∧ IntsV (fun _ => True) w9 _ (pl.map (·.id)) ∧ StoreV (fun _ => True) w9 _ pl from ⟨HV.out.1.below hb9, HV.out.2.1.below hb9, HV.out.2.2.1.below hb9, HV.out.2.2.2.below hb9⟩)
          clear hb9
          go_wp2_with fail
          refine (sameInts_any (pl.map (·.id)) (pl.map (·.id)) _ _ _ _ _ Hv9.out.1 Hv9.out.2.2.1).mono ?_
          rintro e w10 ⟨rfl, hb10⟩
          have hR10 := hRn _ _ hR9 hb10
          have Hv10 := Lib.hid (show StoreV (fun _ => True) w10 _ pl ∧ StoreV (fun _ => True) w10 _ pl from ⟨Hv9.out.2.1.below hb10, Hv9.out.2.2.2.below hb10⟩)
          rw [show sameInts (pl.map (·.id)) (pl.map (·.id)) = true by simp [sameInts]]
          clear hb10 Hv9
          go_wp2_with fail
          refine (storeIs_any pl pl te te _ _ _ _ _ Hv10.out.1 Hv10.out.2).mono ?_
          rintro e w11 ⟨rfl, hb11⟩
          have hR11 := hRn _ _ hR10 hb11
          rw [Hsi.out]
          clear hb11 Hv10
          go_wp2_with fail
          go_ret
          exact ⟨rfl, hRb _ hR11⟩
end Go.Proofs.Ytcppgkhkijejoaa
