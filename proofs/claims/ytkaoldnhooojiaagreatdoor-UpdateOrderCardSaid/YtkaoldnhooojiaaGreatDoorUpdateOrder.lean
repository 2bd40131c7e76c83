
/- Walks: the law UpdateOrder. -/
import Derived.Test.YtkaoldnhooojiaaGreatDoorUpdateTells
import Derived.Test.YtkaoldnhooojiaaGreatDoorRefsOnce
namespace Go.Proofs.YtkaoldnhooojiaaGreatDoor
open Go.RowKit
set_option linter.unusedVariables false
set_option linter.unusedSimpArgs false

def turnTo (us : List Mv) (j : Nat) : List Mv := (us.drop j).reverse
theorem turn_all (us : List Mv) : turnTo us us.length = [] := by unfold turnTo; rw [List.drop_length]; rfl
theorem turn_zero (us : List Mv) : turnTo us 0 = us.reverse := rfl
theorem turn_next {us : List Mv} {q : Nat} (h : q < us.length) : turnTo us q = turnTo us (q + 1) ++ [mv us q] := by
  unfold turnTo; rw [List.drop_eq_getElem_cons h, List.reverse_cons, mv_lt h]
theorem turn_length (us : List Mv) (j : Nat) : (turnTo us j).length = us.length - j := by unfold turnTo; rw [List.length_reverse, List.length_drop]
theorem textU_turn (us : List Mv) : textU us.reverse = textU us := by
  unfold textU
  by_cases h : checkMvs us = 0
  · rw [if_pos h, if_pos ((checkMvs_perm (List.reverse_perm us)).1 h)]
    exact text_perm (mvs_ok.1 h) (List.reverse_perm us)
  · rw [if_neg h, if_neg (fun e => h ((checkMvs_perm (List.reverse_perm us)).2 e))]

set_option maxRecDepth 100000 in
set_option maxHeartbeats 8000000 in
theorem updateOrder_any (l : List Rf) (objs : List Obj) (us : List Mv) (force : Bool) (lv ov uv : Value) (S S2 S3 : Nat → Prop) (w : World) (h : RefsV S w lv l) (ho : StoreV S2 w ov objs) (hu : MvsV S3 w uv us) :
    Calls Tryz.prog 5 #[lv, ov, uv, .bool force] w fun e w' => e = .returned (.bool true) ∧ Below w.heap.size w w' := by
  have HK0 := Lib.hid (show Keep [cB w, cRu S lv l, cS S2 ov objs, cMu S3 uv us] w from ⟨Below.refl _ _, h, ho, hu, trivial⟩)
  have Htu := Lib.hid (textU_turn us)
  have Hcp := Lib.hid (checkMvs_perm (List.reverse_perm us))
  have Hap := Lib.hid (apply_perm (l := l) (objs := objs) force (List.reverse_perm us))
  have Hri := Lib.hid (fun (h : applyE l objs us force = 0) => apply_right h)
  have HTx := Lib.hid (fun us x v (S : Nat → Prop) (hx : MvsV S x v us) => show Calls Tryz.prog 11 #[v] x fun e w' => e = .returned (.tuple #[.string (textU us), .int .i64 (checkMvs us)]) ∧ Below x.heap.size x w' from text_any us v _ x hx)
  have HAp := Lib.hid (fun us x v1 v2 v3 (S' : Nat → Prop) (h1 : RefsV S x v1 l) (h2 : StoreV S2 x v2 objs) (h3 : MvsV S' x v3 us) => apply_any l objs us force v1 v2 v3 _ _ _ x h1 h2 h3)
  obtain ⟨⟨la, lc⟩, rfl⟩ := h.shape
  obtain ⟨oa, oc, rfl⟩ := ho.vshape
  obtain ⟨ua, n, uc, HN, rfl, h1, h2, h3, h4⟩ := hu.open
  have Hn := Lib.hid HN.out
  have Hmv := Lib.hid (fun q (hq : q < n) => show MvOk (mv us q) from hu.2 _ (mv_mem (by rw [← Hn.out]; exact hq)))
  clear h ho hu HN
  go_enter Tryz.func5, Tryz.ntmps5
  go_wp2_with fail
  refine (updateBegun_any _).mono ?_
  rintro e w1 ⟨rfl, hb1⟩
  have HK1 := Lib.hid (HK0.out.below hb1)
  clear hb1 HK0
  go_wp2_with fail
  refine (refsBegun_any _).mono ?_
  rintro e w2 ⟨rfl, hb2⟩
  have HK2 := Lib.hid (HK1.out.below hb2)
  clear hb2 HK1
  have Ht0 := Lib.hid (show turnTo us n = [] by rw [Hn.out]; exact turn_all us)
  go_wp2_with fail
  go_loopw [9, 10] (fun v i wr => ∃ j : Nat, j ≤ n ∧ i = .int .i64 ((j : Int) - 1) ∧ Hid (OwnU w2.heap.size wr v (turnTo us j)) ∧ Hid (Below w2.heap.size w2 wr)) (fun _ i _ => (intOf i + 1).toNat)
  case atStart => exact ⟨n, by omega, by go_num, by rw [Ht0.out]; exact OwnU.nil _ _, Below.refl _ _⟩
  case round =>
    obtain ⟨j, hj, rfl, HO, HB⟩ := hrel
    obtain ⟨va, vc, hvs⟩ := HO.out.shape
    have hlen := turn_length us j
    rw [← Hn.out] at hlen
    rw [hlen] at hvs
    subst hvs
    clear hlen
    rcases Nat.eq_zero_or_pos j with h0 | h0
    case inr =>
      obtain ⟨q, rfl⟩ : ∃ q, j = q + 1 := ⟨j - 1, by omega⟩
      have hcast : ((q + 1 : Nat) : Int) - 1 = (q : Int) := by omega
      rw [hcast]
      clear hcast
      have hlt : q < n := by omega
      have Hnx := Lib.hid (turn_next (us := us) (q := q) (by rw [← Hn.out]; exact hlt))
      obtain ⟨b, off, rfl, hb, k0, k1, k2⟩ := h4 (by omega)
      have hbw := below_next HK2.out.1 HB.out
      have x0 := k0 q wr hlt hbw
      have x1 := k1 q wr hlt hbw
      have x2 := k2 q wr hlt hbw
      have hi1 : (0 : Int) ≤ (q : Int) := by omega
      have hi2 : (q : Int) < (n : Int) := by omega
      have hsz := HB.out.size
      have hok := Hmv.out q hlt
      have Hok := Lib.hid hok
      have hl32 : (turnTo us (q + 1)).length + 1 ≤ n := by rw [turn_length, ← Hn.out]; omega
      have Hl := Lib.hid (show ((turnTo us (q + 1)).length + 1) * 32 ≤ 140737488351232 by omega)
      clear k0 k1 k2 h4 hbw hok hl32
      go_wp2_with (at_builtin; refine wpList_append_mv (p := mv us q) rfl _ _ rfl HO.out Hok.out Hl.out hsz rfl rfl (by first | rfl | simp) ?_)
      intro v' w5 hG5 hu5
      have HB5 := Lib.hid (HB.out.trans (hu5.below (B := w2.heap.size) hsz (fun b hb => (HO.out.block hb).1)))
      have HG5 := Lib.hid (show OwnU w2.heap.size w5 v' (turnTo us q) by rw [Hnx.out]; exact hG5)
      obtain ⟨pv, hpv⟩ : ∃ p : Option Addr × Nat × Nat, v' = .slice p.1 p.2.1 p.2.2 := let ⟨a, c, h⟩ := hG5.shape; ⟨(a, _, c), h⟩
      subst hpv
      clear hG5 hu5 x0 x1 x2 HO HB
      go_wp2_with fail
      go_roundw
      case rel => exact ⟨q, by omega, by go_num, HG5.out, HB5.out⟩
      case measure => first | (simp [intOf]; done) | (simp [intOf]; omega)
    case inl =>
      subst h0
      have hl0 : n - 0 = n := by omega
      rw [hl0]
      have HK3 := Lib.hid (Keep.push (c := cMu (fun _ => True) (.slice va n vc) us.reverse) (HK2.out.below HB.out) ((HO.out.mvs (by rw [turn_length, ← Hn.out]; omega)).weaken fun _ _ => trivial))
      clear HO HB HK2 hl0 h4
      have hneg : ((0 : Nat) : Int) - 1 = -1 := rfl
      rw [hneg]
      clear hneg
      generalize us.reverse = ts at *
      go_wp2_with fail
      refine (HAp.out us wr _ _ _ _ HK3.out.2.2.1 HK3.out.2.2.2.1 HK3.out.2.2.2.2.1).mono ?_
      rintro e w4 ⟨v4, rfl, hv4, hb4⟩
      have HK4 := Lib.hid (Keep.push (c := cRu (fun _ => True) v4 (applyR l objs us force)) (HK3.out.below hb4) (hv4.weaken fun _ _ => trivial))
      obtain ⟨⟨p4, c4⟩, rfl⟩ := hv4.shape
      clear hv4 hb4 HK3
      go_wp2_with fail
      refine (HAp.out ts w4 _ _ _ _ HK4.out.2.2.2.1 HK4.out.2.2.2.2.1 HK4.out.2.1).mono ?_
      rintro e w5 ⟨v5, rfl, hv5, hb5⟩
      rw [← Hap.out.2] at hv5
      have HK5 := Lib.hid (Keep.push (c := cRu (fun _ => True) v5 (applyR l objs us force)) (HK4.out.below hb5) (hv5.weaken fun _ _ => trivial))
      obtain ⟨⟨p5, c5⟩, rfl⟩ := hv5.shape
      clear hv5 hb5 HK4 HAp
      go_wp2_with fail
      refine (HTx.out us w5 _ _ HK5.out.2.2.2.2.2.2.1).mono ?_
      rintro e w6 ⟨rfl, hb6⟩
      have HK6 := Lib.hid (HK5.out.below hb6)
      clear hb6 HK5
      go_wp2_with fail
      refine (HTx.out ts w6 _ _ HK6.out.2.2.1).mono ?_
      rintro e w7 ⟨rfl, hb7⟩
      have HK7 := Lib.hid (HK6.out.below hb7)
      rw [Htu.out]
      clear hb7 HK6 HTx
      have hS := sameRefs_any (applyR l objs us force) (applyR l objs us force) _ _ _ _ w7 HK7.out.2.1 HK7.out.1
      rw [(sameRefs_iff _ _).2 rfl] at hS
      have HS := Lib.hid hS
      have HR := Lib.hid (fun (h : applyE l objs us force = 0) x (hx : Below w7.heap.size w7 x) => show Calls Tryz.prog 21 #[.slice p4 (applyR l objs us force).length c4, .slice oa objs.length oc] x fun e w' => e = .returned (.int .i64 0) ∧ Below x.heap.size x w' by
        have := refsCheck_any (applyR l objs us force) objs _ _ _ _ x (HK7.out.below hx).2.1 (HK7.out.below hx).2.2.2.2.2.1
        rw [Hri.out h] at this; exact this)
      have HB7 := Lib.hid HK7.out.2.2.2.1
      clear hS HK7
      generalize textU us = T at *
      have he : (applyE l objs us force = 0 ∧ applyE l objs ts force = 0) ∨ (applyE l objs us force ≠ 0 ∧ applyE l objs ts force ≠ 0) := by
        by_cases h : applyE l objs us force = 0
        · exact .inl ⟨h, Hap.out.1.1 h⟩
        · exact .inr ⟨h, fun e => h (Hap.out.1.2 e)⟩
      have hc : ((checkMvs us == 0) = true ∧ (checkMvs ts == 0) = true) ∨ ((checkMvs us == 0) = false ∧ (checkMvs ts == 0) = false) := by
        by_cases h : checkMvs us = 0
        · exact .inl ⟨by simpa using h, by simpa using Hcp.out.1 h⟩
        · exact .inr ⟨by simpa using h, by simpa using fun e => h (Hcp.out.2 e)⟩
      clear Hcp Hap Hri Htu
      generalize checkMvs us = C1 at *
      generalize checkMvs ts = C2 at *
      rcases he with ⟨e1, e2⟩ | ⟨e1, e2⟩
      · rw [e1, e2]
        have HR0 := Lib.hid (HR.out e1)
        clear e1 e2 HR
        rcases hc with ⟨q1, q2⟩ | ⟨q1, q2⟩
        all_goals
          go_wp2_with fail
          refine HS.out.mono ?_
          rintro e w8 ⟨rfl, hb8⟩
          have HB8 := Lib.hid hb8
          clear hb8
          go_wp2_with fail
          refine (HR0.out _ HB8.out).mono ?_
          rintro e w9 ⟨rfl, hb9⟩
          have HB9 := Lib.hid (below_next HB7.out (below_next HB8.out hb9))
          clear hb9
          go_wp2_with fail
          go_ret
          exact ⟨rfl, HB9.out⟩
      · have r1 : (applyE l objs us force == 0) = false := by simpa using e1
        have r2 : (applyE l objs ts force == 0) = false := by simpa using e2
        have r3 : (applyE l objs us force != 0) = true := by simpa using e1
        clear e1 e2 HR
        generalize applyE l objs us force = E1 at *
        generalize applyE l objs ts force = E2 at *
        rcases hc with ⟨q1, q2⟩ | ⟨q1, q2⟩
        all_goals
          go_wp2_with fail
          refine HS.out.mono ?_
          rintro e w8 ⟨rfl, hb8⟩
          have HB8 := Lib.hid (below_next HB7.out hb8)
          clear hb8
          go_wp2_with fail
          go_ret
          exact ⟨rfl, HB8.out⟩
end Go.Proofs.YtkaoldnhooojiaaGreatDoor
