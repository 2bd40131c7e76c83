/- Walks: the law StoreOrder. -/
import Derived.Test.YtcppgkhkijejoaaRefB
import Derived.Test.YtcppgkhkijejoaaStoreLaw
import Derived.Deep.DeepCutAuto
namespace Go.Proofs.Ytcppgkhkijejoaa
open Go.RowKit
set_option linter.unusedVariables false
set_option linter.unusedSimpArgs false

/-- a store from one place on -/
theorem StoreV.drop {S : Nat → Prop} {w : World} {b off n cap : Nat} {l : List Obj} (h : StoreV S w (.slice (some ⟨b, off, none⟩) n cap) l) {i : Nat} (hi : i ≤ l.length) : StoreV S w (.slice (some ⟨b, off + i * 4, none⟩) (n - i) (cap - i)) (l.drop i) := by
  obtain ⟨lvs, ⟨a', cap', hv, h1, h2, h3, h4⟩, h5⟩ := h
  cases hv
  refine ⟨fun j => lvs (i + j), ⟨_, _, by rw [List.length_drop], by rw [List.length_drop]; omega, by omega, by rw [List.length_drop]; omega, fun hn => ?_⟩, fun j hj => ?_⟩
  · rw [List.length_drop] at hn
    obtain ⟨b', off', ha, hS, hc⟩ := h4 (by omega)
    cases ha
    refine ⟨b, off + i * 4, rfl, hS, fun j hj k u hu => ?_⟩
    rw [List.length_drop] at hj
    have e : obj (l.drop i) j = obj l (i + j) := by unfold obj at_; simp only [List.getD_eq_getElem?_getD, List.getElem?_drop]
    have := hc (i + j) (by omega) k u (by show (objCells (obj l (i + j)) (lvs (i + j)))[k]? = some u; rw [← e]; exact hu)
    rw [show off + i * 4 + j * 4 + k = off + (i + j) * 4 + k by omega]; exact this
  · rw [List.length_drop] at hj
    have e : obj (l.drop i) j = obj l (i + j) := by unfold obj at_; simp only [List.getD_eq_getElem?_getD, List.getElem?_drop]
    rw [e]; exact h5 (i + j) (by omega)

/-- an element of a store, at its place, its links where the store's are -/
theorem store_elemS {S : Nat → Prop} {x : World} {a : Option Addr} {n c : Nat} {l : List Obj} (h : StoreV S x (.slice a n c) l) {i : Nat} (hi : i < l.length) :
    ∃ b off p c', a = some ⟨b, off, none⟩ ∧ ObjAt x (obj l i) b (off + i * 4) (.slice p (obj l i).links.length c') ∧ ObjIs S x (obj l i) (.slice p (obj l i).links.length c') := by
  obtain ⟨a5, n5, c5, la5, ln5, lc5, HN5, e5, _, _, _, h45, h55⟩ := h.open
  cases e5
  have hn := HN5.out.1
  obtain ⟨b, off, rfl, _, k0, k1, k2, k3⟩ := h45 (by omega)
  have hln := HN5.out.2 i
  refine ⟨b, off, la5 i, lc5 i, rfl, ?_, ?_⟩
  · rw [← hln]
    exact ⟨k0 i x (by omega) (Below.refl _ _), k1 i x (by omega) (Below.refl _ _), k2 i x (by omega) (Below.refl _ _), k3 i x (by omega) (Below.refl _ _)⟩
  · rw [← hln]; exact h55 i (by omega)

def turnedTo (l : List Obj) (m : Nat) : List Obj := (l.drop m).reverse
theorem turnedTo_next {l : List Obj} {m : Nat} (h : m + 1 ≤ l.length) : turnedTo l m = turnedTo l (m + 1) ++ [obj l m] := by
  unfold turnedTo; rw [List.drop_eq_getElem_cons (show m < l.length by omega), List.reverse_cons, obj_lt]
theorem turnedTo_all (l : List Obj) : turnedTo l l.length = [] := by unfold turnedTo; rw [List.drop_length]; rfl
theorem turnedTo_none (l : List Obj) : turnedTo l 0 = l.reverse := by unfold turnedTo; rfl
theorem turnedTo_length (l : List Obj) (m : Nat) : (turnedTo l m).length ≤ l.length := by unfold turnedTo; rw [List.length_reverse, List.length_drop]; omega

set_option maxRecDepth 100000 in
set_option maxHeartbeats 4000000 in
theorem storeOrder_any (l more : List Obj) (m : Int) (lv mv : Value) (S S' : Nat → Prop) (w : World) (h : StoreV S w lv l) (hm : StoreV S' w mv more) (hi64 : I64 m) :
    Calls Try.prog 15 #[lv, mv, .int .i64 m] w fun e w' => e = .returned (.bool true) ∧ Below w.heap.size w w' := by
  have HK0 := Lib.hid (show Keep [cB w, cS S lv l, cS (fun b => S' b ∧ b < w.heap.size) mv more] w from ⟨Below.refl _ _, h, hm.lt, trivial⟩)
  obtain ⟨la, lc, rfl⟩ := h.vshape
  obtain ⟨ma, n, mc, lna, ln, lc', HN, rfl, h1, h2, h3, h4, h5⟩ := hm.open
  have Hn := Lib.hid HN.out.1
  clear h hm h4 h5 HN
  by_cases hneg : m < 0
  · have hd : decide (m < 0) = true := by simpa using hneg
    go_enter Try.func15, Try.ntmps15
    go_wp2_with fail
    refine (storeBegun_any _).mono ?_
    rintro e w1 ⟨rfl, hb1⟩
    have HB := Lib.hid hb1
    clear hb1
    go_wp2_with fail
    go_ret
    exact ⟨rfl, HB.out⟩
  · have hd : decide (m < 0) = false := by simpa using hneg
    by_cases hbig : (n : Int) < m
    · have hd2 : decide ((n : Int) < m) = true := by simpa using hbig
      go_enter Try.func15, Try.ntmps15
      go_wp2_with fail
      refine (storeBegun_any _).mono ?_
      rintro e w1 ⟨rfl, hb1⟩
      have HB := Lib.hid hb1
      clear hb1
      go_wp2_with fail
      go_ret
      exact ⟨rfl, HB.out⟩
    · have hd2 : decide ((n : Int) < m) = false := by simpa using hbig
      obtain ⟨k, rfl⟩ : ∃ k : Nat, m = k := ⟨m.toNat, by omega⟩
      have hkn : k ≤ n := by omega
      have hkn2 : (k : Int) ≤ (n : Int) := by omega
      have hd3 : decide (n < k) = false := by simp; omega
      have hk0 : (0 : Int) ≤ (k : Int) := by omega
      clear hneg hbig
      obtain ⟨R, hR, hR1, hRall⟩ := cls_plain w
      have hRb := hR.below
      have hRn := hR.next
      go_enter Try.func15, Try.ntmps15
      go_wp2_with fail
      refine (storeBegun_any _).mono ?_
      rintro e w1 ⟨rfl, hb1⟩
      have HK1 := Lib.hid (HK0.out.below hb1)
      clear hb1 HK0 hR1
      go_wp2_with fail
      have hn1 : n ≤ 9223372036854775807 := by omega
      have hsz1 := HK1.out.1.size
      go_loopw [7, 8] (fun v i wr => ∃ j : Nat, j ≤ n ∧ i = .int .i64 ((j : Int) - 1) ∧ Hid (Gath w1.heap.size wr v (turnedTo more j) ∧ Below w1.heap.size w1 wr)) (fun _ i _ => ((intOf i) + 1).toNat)
      case atStart => exact ⟨n, Nat.le_refl _, rfl, by rw [Hn.out, turnedTo_all]; exact Gath.nil _ _, Below.refl _ _⟩
      case round =>
        obtain ⟨j, hj, rfl, HG⟩ := hrel
        have HK2 := Lib.hid (HK1.out.below HG.out.2)
        have htl := turnedTo_length more j
        by_cases hj0 : 0 < j
        · obtain ⟨b, off, p, c, e5, ⟨x0, x1, x2, x3⟩, ho⟩ := store_elemS HK2.out.2.2.1 (i := j - 1) (by have := Hn.out; omega)
          cases e5
          have Ho := Lib.hid ho
          obtain ⟨va, vc, hvs⟩ := HG.out.1.shape
          subst hvs
          have hbs := HG.out.2.size
          have Hsep := Lib.hid (show ∀ b, (S' b ∧ b < w.heap.size) → b < wr.heap.size ∧ (Value.slice va (turnedTo more j).length vc).ownBlock ≠ some b from
            fun b hb => ⟨by omega, fun e => by have := (HG.out.1.block e).1; omega⟩)
          have hi1 : (0 : Int) ≤ (j : Int) - 1 := by omega
          have hi2 : (j : Int) - 1 < (n : Int) := by omega
          have hi3 : (1 : Int) ≤ (j : Int) := by omega
          have htn : ((j : Int) - 1).toNat = j - 1 := by omega
          have hnn := Hn.out
          have hln2 : ((turnedTo more j).length + 1) * 56 ≤ 140737488351232 := by unfold turnedTo; rw [List.length_reverse, List.length_drop]; omega
          clear hnn ho
          go_wp2_with (at_builtin; refine wpList_append_obj rfl _ _ rfl HG.out.1 Ho.out rfl Hsep.out hln2 hbs rfl rfl (by first | rfl | simp) ?_)
          intro v' w5 hG5 hu5
          rw [show obj more (j - 1) = obj more (j - 1) from rfl] at hG5
          have HG5 := Lib.hid (show Gath w1.heap.size w5 v' (turnedTo more (j - 1)) ∧ Below w1.heap.size w1 w5 from
            ⟨by rw [turnedTo_next (show j - 1 + 1 ≤ more.length by have := Hn.out; omega), show j - 1 + 1 = j by omega]; exact hG5,
              HG.out.2.trans (hu5.below (B := w1.heap.size) hbs (fun b hb => (HG.out.1.block hb).1))⟩)
          obtain ⟨va', vc', hvs'⟩ := hG5.shape
          subst hvs'
          clear hG5 hu5 x0 x1 x2 x3 HG Ho Hsep hln2
          go_wp2_with fail
          go_roundw
          case rel => exact ⟨j - 1, by omega, by first | go_num | (congr 1; omega), HG5.out⟩
          case measure => simp [intOf]; omega
        · obtain rfl : j = 0 := by omega
          have hst := HG.out.1.store (by have := Hn.out; omega)
          obtain ⟨va, vc, hvs⟩ := HG.out.1.shape
          subst hvs
          rw [turnedTo_none] at hst htl
          have HK3 := Lib.hid (Keep.push (c := cS (fun _ => True) (.slice va more.reverse.length vc) more.reverse) HK2.out hst)
          clear hst HK2 HG HK1 hsz1
          rw [turnedTo_none]
          have ht := add_turned (l := l) (more := more) (more' := more.reverse) (fun x => List.mem_reverse.symm) List.length_reverse.symm
          generalize more.reverse = tm at *
          clear htl
          have HL := Lib.hid ht.2
          have HA1 := Lib.hid (fun x hx => add_any l more _ _ S _ x (Keep.below HK3.out hx).2.2.1 (Keep.below HK3.out hx).2.2.2.1)
          have HA2 := Lib.hid (fun x hx => add_any l tm _ _ S _ x (Keep.below HK3.out hx).2.2.1 (Keep.below HK3.out hx).1)
          have hkl : k ≤ more.length := by have := Hn.out; omega
          have HA3 := Lib.hid (fun x hx => add_any l (more.take k) _ _ S _ x (Keep.below HK3.out hx).2.2.1 ((Keep.below HK3.out hx).2.2.2.1.take hkl))
          have HP := Lib.hid (fun h h' => add_parts (l := l) (more := more) k h h')
          rw [← ht.2] at HA2
          have ht1 := ht.1
          clear ht
          generalize hE : addE l more = E at *
          generalize addE l tm = E' at *
          generalize hE2 : addE l (more.take k) = E2 at *
          generalize hL2 : addL l (more.take k) = L2 at *
          have HE := Lib.hid hE
          have HE2 := Lib.hid hE2
          have HL2 := Lib.hid hL2
          clear hE hE2 hL2
          generalize addL l more = L at *
          have h3 : (E ≠ 0 ∧ E' ≠ 0) ∨ (E = 0 ∧ E' = 0 ∧ E2 ≠ 0) ∨ (E = 0 ∧ E' = 0 ∧ E2 = 0) := by
            by_cases a : E = 0
            · by_cases b : E2 = 0
              · exact .inr (.inr ⟨a, ht1.1 a, b⟩)
              · exact .inr (.inl ⟨a, ht1.1 a, b⟩)
            · exact .inl ⟨a, fun e => a (ht1.2 e)⟩
          clear ht1
          rcases h3 with ⟨h1, h2⟩ | ⟨rfl, rfl, h2⟩ | ⟨rfl, rfl, rfl⟩
          case' inl =>
            have q1 : (E == 0) = false := by simpa using h1
            have q2 : (E' == 0) = false := by simpa using h2
            have q3 : (E != 0) = true := by simpa using h1
          case' inr.inl =>
            have q3 : (E2 != 0) = true := by simpa using h2
          all_goals
            go_wp2_with fail
            refine (HA1.out _ (Below.refl _ _)).mono ?_
            rintro e x1 ⟨v1, rfl, hv1, hb1⟩
            obtain ⟨a1, c1, rfl⟩ := hv1.vshape
            have HX1 := Lib.hid (And.intro hv1 hb1)
            clear hv1 hb1
            go_wp2_with fail
            refine (HA2.out _ HX1.out.2).mono ?_
            rintro e x2 ⟨v2, rfl, hv2, hb2⟩
            obtain ⟨a2, c2, rfl⟩ := hv2.vshape
            have HX2 := Lib.hid (And.intro (And.intro (HX1.out.1.below hb2) hv2) (below_next HX1.out.2 hb2))
            have hSS := sameStore_any L L _ _ _ _ x2 HX2.out.1.1 HX2.out.1.2
            rw [sameStore_refl] at hSS
            have HSS := Lib.hid hSS
            clear hv2 hb2 HX1 hSS
            go_wp2_with fail
            refine HSS.out.mono ?_
            rintro e x3 ⟨rfl, hb3⟩
            have HX3 := Lib.hid (And.intro (HX2.out.1.1.below hb3) (below_next HX2.out.2 hb3))
            have hkmc : (k : Int) ≤ (mc : Int) := by omega
            clear hb3 HX2 HSS
            go_wp2_with fail
            refine (HA3.out _ HX3.out.2).mono ?_
            rintro e x4 ⟨v4, rfl, hv4, hb4⟩
            obtain ⟨a4, c4, rfl⟩ := hv4.vshape
            have HX4 := Lib.hid (And.intro (And.intro (HX3.out.1.below hb4) hv4) (below_next HX3.out.2 hb4))
            clear hv4 hb4 HX3
          · go_wp2_with fail
            go_ret
            exact ⟨rfl, ((HK3.out.below HX4.out.2).2.1)⟩
          · go_wp2_with fail
            go_ret
            exact ⟨rfl, ((HK3.out.below HX4.out.2).2.1)⟩
          · have HPz := Lib.hid (HP.out trivial trivial)
            have HK4 := Lib.hid (HK3.out.below HX4.out.2)
            have hfin : ∀ (dv : Value) (x : World), Below x4.heap.size x4 x → StoreV (fun _ => True) x dv (more.drop k) → Calls Try.prog 46 #[.slice a4 L2.length c4, dv] x fun e w' => RetStoreE x w' e L 0 := fun dv x hx hd => by
              have := add_any L2 (more.drop k) _ _ _ _ x (HX4.out.1.2.below hx) hd
              rw [HPz.out.1, HPz.out.2] at this
              exact this
            have HF := Lib.hid hfin
            have Hst := Lib.hid (HK4.out.2.2.2.1.weaken (S' := fun _ => True) fun _ _ => trivial)
            have HBx := Lib.hid HK4.out.2.1
            clear hfin HK3 HK4 HPz HP HA1 HA2 HA3
            have HN0 := Lib.hid (fun (e : n = 0) (a : Option Addr) (c : Nat) (hc : c ≤ 9223372036854775807) => show StoreV (fun _ => True) x4 (.slice a 0 c) (more.drop 0) by
              have : more = [] := List.length_eq_zero_iff.1 (by have := Hn.out; omega)
              rw [this]; exact StoreV.nil _ _ _ _ hc)
            by_cases hn0 : n = 0
            · obtain rfl : k = 0 := by omega
              subst hn0
              by_cases hmc : mc = 0
              · subst hmc
                have HD := Lib.hid (HN0.out rfl ma 0 (by omega))
                go_wp2_with fail
                refine (HF.out _ _ (Below.refl _ _) HD.out).mono ?_
                rintro e x5 ⟨v5, rfl, hv5, hb5⟩
                obtain ⟨a5, c5, rfl⟩ := hv5.vshape
                have hSS := sameStore_any L L _ _ _ _ x5 (HX4.out.1.1.below hb5) hv5
                rw [sameStore_refl] at hSS
                have HSS := Lib.hid hSS
                have HB5 := Lib.hid (below_next HBx.out hb5)
                clear hSS hv5 hb5
                go_wp2_with fail
                refine HSS.out.mono ?_
                rintro e x6 ⟨rfl, hb6⟩
                have HB6 := Lib.hid (below_next HB5.out hb6)
                clear hb6
                go_wp2_with fail
                go_ret
                exact ⟨rfl, HB6.out⟩
              · have HD := Lib.hid (HN0.out rfl ma mc h2)
                go_wp2_with fail
                refine (HF.out _ _ (Below.refl _ _) HD.out).mono ?_
                rintro e x5 ⟨v5, rfl, hv5, hb5⟩
                obtain ⟨a5, c5, rfl⟩ := hv5.vshape
                have hSS := sameStore_any L L _ _ _ _ x5 (HX4.out.1.1.below hb5) hv5
                rw [sameStore_refl] at hSS
                have HSS := Lib.hid hSS
                have HB5 := Lib.hid (below_next HBx.out hb5)
                clear hSS hv5 hb5
                go_wp2_with fail
                refine HSS.out.mono ?_
                rintro e x6 ⟨rfl, hb6⟩
                have HB6 := Lib.hid (below_next HB5.out hb6)
                clear hb6
                go_wp2_with fail
                go_ret
                exact ⟨rfl, HB6.out⟩
            · obtain ⟨b, off, hma⟩ : ∃ b off, ma = some ⟨b, off, none⟩ := by
                obtain ⟨lvs, ⟨a', cap', hv, _, _, _, h4⟩, _⟩ := Hst.out
                injection hv with e1 e2 e3
                obtain ⟨b, off, ha, _⟩ := h4 (by have := Hn.out; omega)
                exact ⟨b, off, e1.trans ha⟩
              subst hma
              by_cases hmc : k = mc
              · have HD := Lib.hid (show StoreV (fun _ => True) x4 (.slice (some ⟨b, off, none⟩) 0 0) (more.drop k) by rw [show k = more.length by have := Hn.out; omega, List.drop_length]; exact StoreV.nil _ _ _ _ (by omega))
                have e1 : n = k := by omega
                subst hmc
                subst e1
                go_wp2_with fail
                refine (HF.out _ _ (Below.refl _ _) HD.out).mono ?_
                rintro e x5 ⟨v5, rfl, hv5, hb5⟩
                obtain ⟨a5, c5, rfl⟩ := hv5.vshape
                have hSS := sameStore_any L L _ _ _ _ x5 (HX4.out.1.1.below hb5) hv5
                rw [sameStore_refl] at hSS
                have HSS := Lib.hid hSS
                have HB5 := Lib.hid (below_next HBx.out hb5)
                clear hSS hv5 hb5
                go_wp2_with fail
                refine HSS.out.mono ?_
                rintro e x6 ⟨rfl, hb6⟩
                have HB6 := Lib.hid (below_next HB5.out hb6)
                clear hb6
                go_wp2_with fail
                go_ret
                exact ⟨rfl, HB6.out⟩
              · have HD := Lib.hid (Hst.out.drop hkl)
                have hklt : k < mc := by omega
                go_wp2_with fail
                refine (HF.out _ _ (Below.refl _ _) HD.out).mono ?_
                rintro e x5 ⟨v5, rfl, hv5, hb5⟩
                obtain ⟨a5, c5, rfl⟩ := hv5.vshape
                have hSS := sameStore_any L L _ _ _ _ x5 (HX4.out.1.1.below hb5) hv5
                rw [sameStore_refl] at hSS
                have HSS := Lib.hid hSS
                have HB5 := Lib.hid (below_next HBx.out hb5)
                clear hSS hv5 hb5
                go_wp2_with fail
                refine HSS.out.mono ?_
                rintro e x6 ⟨rfl, hb6⟩
                have HB6 := Lib.hid (below_next HB5.out hb6)
                clear hb6
                go_wp2_with fail
                go_ret
                exact ⟨rfl, HB6.out⟩
end Go.Proofs.Ytcppgkhkijejoaa
