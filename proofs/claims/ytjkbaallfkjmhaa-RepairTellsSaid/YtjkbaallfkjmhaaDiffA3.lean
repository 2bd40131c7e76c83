
/- DiffA3: the reference's DiffOf. -/
import Derived.Test.YtjkbaallfkjmhaaDiffA2
namespace Go.Proofs.Ytjkbaallfkjmhaa
open Go.RowKit
set_option linter.unusedVariables false
set_option linter.unusedSimpArgs false

set_option maxRecDepth 100000 in
set_option maxHeartbeats 4000000 in
theorem diffA_any (l m : List Obj) (lv mv : Value) (S S' : Nat → Prop) (w : World) (h : StoreV S w lv l) (hm : StoreV S' w mv m) (hr : Rising m) (hl : l.length ≤ 800) :
    Calls Try.prog 25 #[lv, mv] w fun e w' => RetStoreA S w w' e (rawL l m) (rawE l m) := by
  obtain ⟨a, n, cap, la, ln, lc, HN, rfl, h1, h2, h3, h4, h5⟩ := h.lt.open
  obtain ⟨ma, mc, rfl⟩ := hm.vshape
  have Hn := Lib.hid HN.out.1
  have HwE := Lib.hid (show rawE l m = scan (missErr l m) n by rw [Hn.out]; rfl)
  have HwL := Lib.hid (show rawL l m = if rawE l m = 0 then missTo l m n else [] by rw [Hn.out, missTo_end]; rfl)
  have hn800 : n ≤ 800 := by rw [Hn.out]; exact hl
  have Hjl := Lib.hid (missTo_length l m)
  have Hm := Lib.hid hm
  have Hr := Lib.hid hr
  have H5 := Lib.hid h5
  clear h hm hr hl h5 HN
  go_enter Try.func25, Try.ntmps25
  go_wp2_with fail
  go_loopw [6, 7] (fun v i wr => ∃ k : Nat, k ≤ n ∧ i = .int .i64 k ∧ Hid (scan (missErr l m) k = 0) ∧ Hid (GathA S w.heap.size wr v (missTo l m k) ∧ Below w.heap.size w wr)) (fun _ i _ => n - (intOf i).toNat)
  case atStart => exact ⟨0, by omega, rfl, rfl, ⟨GathA.nil _ _ _, Below.refl _ _⟩⟩
  case round =>
    obtain ⟨k, hk, rfl, Hs, HX⟩ := hrel
    obtain ⟨wo, rfl⟩ : ∃ wo : World, wo = wr := ⟨_, rfl⟩
    obtain ⟨va, vc, hvs⟩ := HX.out.1.shape
    subst hvs
    have hjs := Hjl.out k
    by_cases hlt : k < n
    · obtain ⟨b, off, rfl, hb, k0, k1, k2, k3⟩ := h4 (by omega)
      have x0 := k0 k wo hlt HX.out.2
      have x1 := k1 k wo hlt HX.out.2
      have x2 := k2 k wo hlt HX.out.2
      have x3 := k3 k wo hlt HX.out.2
      have Hst := Lib.hid (Hm.out.below HX.out.2)
      have hat0 := Hr.out.at_ (obj l k).id
      have hHat := objectAt_any m _ _ (obj l k).id wo Hst.out
      have hi1 : (0 : Int) ≤ (k : Int) := by omega
      have hi2 : (k : Int) < (n : Int) := by omega
      have hkl : k < l.length := by have := Hn.out; omega
      have Ho := Lib.hid (H5.out k hlt)
      cases hat : isAt m (obj l k).id
      · have HL := Lib.hid (missTo_not hkl hat)
        have HE := Lib.hid (missErr_not (l := l) (m := m) (k := k) hat)
        rw [hat] at hat0
        rw [show atOf m (obj l k).id = -1 from hat0] at hHat
        have HHat := Lib.hid hHat
        clear hHat hat0 hat
        go_wp2_with fail
        refine HHat.out.mono ?_
        rintro e w' ⟨rfl, rfl⟩
        go_wp2_with fail
        go_quiet (fail)
        have hbN : Below wo.heap.size wo (wo.drewN nq) := below_drewN wo _ nq (Below.refl _ _)
        have HB2 := Lib.hid (HX.out.2.trans (hbN.mono HX.out.2.size))
        have HG2 := Lib.hid (HX.out.1.below hbN)
        have y0 := k0 k _ hlt HB2.out
        have y1 := k1 k _ hlt HB2.out
        have y2 := k2 k _ hlt HB2.out
        have y3 := k3 k _ hlt HB2.out
        have Ho2 := Lib.hid (Ho.out.below HB2.out)
        have hsz := HB2.out.size
        have Hsep := Lib.hid (show ∀ b, (S b ∧ b < w.heap.size) → b < (wo.drewN nq).heap.size ∧ (Value.slice va (missTo l m k).length vc).ownBlock ≠ some b from
          fun b hb => ⟨by omega, fun e => by have := (HG2.out.block e).1; omega⟩)
        clear x0 x1 x2 x3 k0 k1 k2 k3 h4
        generalize wo.drewN nq = w2 at *
        clear hbN
        obtain ⟨S1, hGS1, hSA1⟩ := HG2.out
        go_wp2_with (at_builtin; refine wpList_append_objS rfl _ _ rfl hGS1 Ho2.out rfl Hsep.out (by omega) hsz rfl rfl (by first | rfl | simp) ?_)
        intro v' w5 hG5 hu5
        have HB5 := Lib.hid (HB2.out.trans (hu5.below (B := w.heap.size) hsz (fun b hb => (HG2.out.block hb).1)))
        have HG5 := Lib.hid (show GathA S w.heap.size w5 v' (missTo l m (k + 1)) by rw [HL.out]; exact ⟨_, hG5, fun b hb => hb.elim (hSA1 b) (fun h => h.1)⟩)
        obtain ⟨va', vc', hvs'⟩ := HG5.out.shape
        subst hvs'
        clear hG5 hu5 y0 y1 y2 y3 HG2 Ho2 Hsep HB2 HHat
        go_wp2_with fail
        go_roundw
        case rel => exact ⟨k + 1, by omega, by go_num, scan_next Hs.out HE.out, ⟨HG5.out, HB5.out⟩⟩
        case measure => simp [intOf]; omega
      · have HL := Lib.hid (missTo_there hkl hat)
        have hk' : lo m (obj l k).id < m.length := (by unfold isAt at hat; simp at hat; exact hat.1)
        have HE0 := Lib.hid (fun h => missErr_same (l := l) (m := m) (k := k) h)
        have HE6 := Lib.hid (fun h => missErr_twice (l := l) (m := m) (k := k) hat h)
        rw [hat] at hat0
        rw [show atOf m (obj l k).id = (lo m (obj l k).id : Int) from hat0] at hHat
        have HHat := Lib.hid hHat
        clear hHat hat0 hat
        generalize lo m (obj l k).id = q at *
        obtain ⟨R, hR, hR1, _⟩ := cls_plain wo
        obtain ⟨a5, n5, c5, la5, ln5, lc5, HN5, e5, _, _, _, h45, h55⟩ := Hst.out.open
        cases e5
        obtain ⟨b5, off5, rfl, _, z0, z1, z2, z3⟩ := h45 (by omega)
        have HS := Lib.hid (fun x (hx : In R x) => sameObject_any (obj l k) (obj m q) _ _ _ _ x (Ho.out.below (HX.out.2.trans ((hR.below _ hx).mono HX.out.2.size))) ((h55 q hk').below (hR.below _ hx)))
        have y0 := fun x (hx : In R x) => k0 k x hlt (HX.out.2.trans ((hR.below _ hx).mono HX.out.2.size))
        have y1 := fun x (hx : In R x) => k1 k x hlt (HX.out.2.trans ((hR.below _ hx).mono HX.out.2.size))
        have y2 := fun x (hx : In R x) => k2 k x hlt (HX.out.2.trans ((hR.below _ hx).mono HX.out.2.size))
        have y3 := fun x (hx : In R x) => k3 k x hlt (HX.out.2.trans ((hR.below _ hx).mono HX.out.2.size))
        have r0 := fun x (hx : In R x) => z0 q x hk' (hR.below _ hx)
        have r1 := fun x (hx : In R x) => z1 q x hk' (hR.below _ hx)
        have r2 := fun x (hx : In R x) => z2 q x hk' (hR.below _ hx)
        have r3 := fun x (hx : In R x) => z3 q x hk' (hR.below _ hx)
        have hRg := cls_grown hR
        have hi3 : (0 : Int) ≤ (q : Int) := by omega
        have hi4 : (q : Int) < (m.length : Int) := by omega
        clear z0 z1 z2 z3 k0 k1 k2 k3 h4 h45 h55 HN5 x0 x1 x2 x3
        cases hs : sameObj (obj l k) (obj m q)
        · have HE6 := Lib.hid (show scan (missErr l m) n = 6 by rw [scan_hit Hs.out (by rw [HE6.out hs]; decide) hlt, HE6.out hs])
          have HEnd := Lib.hid (show rawE l m = 6 ∧ rawL l m = [] from by
            have e1 : rawE l m = 6 := by rw [HwE.out, HE6.out]
            exact ⟨e1, by rw [HwL.out, e1]; rfl⟩)
          have HB := Lib.hid HX.out.2
          rw [hs] at HS
          go_wp2_with fail
          refine HHat.out.mono ?_
          rintro e w' ⟨rfl, rfl⟩
          go_wp2_with fail
          refine wp_region_quiet_below (by kernel_rfl) (by kernel_rfl) ?_
          repeat (quiet_step (exact Calls.regrown_of (HS.out _ (hRg _ _ _ hR1))))
          refine wpQuiet_nil ?_
          intro _ hw'
          obtain ⟨⟨dq, osq⟩, hw''⟩ := hw'
          subst hw''
          have hR2 := hRg _ dq osq hR1
          generalize Go.Sort.grow (redrawn _ dq) osq = w5 at *
          go_wp2_with fail
          go_ret2
          rw [HEnd.out.1, HEnd.out.2]
          exact ⟨_, rfl, StoreV.nil _ _ _ _ (by omega), HB.out.trans ((hR.below _ hR2).mono HB.out.size)⟩
        · have HE0 := Lib.hid (HE0.out hs)
          rw [hs] at HS
          go_wp2_with fail
          refine HHat.out.mono ?_
          rintro e w' ⟨rfl, rfl⟩
          go_wp2_with fail
          refine wp_region_quiet_below (by kernel_rfl) (by kernel_rfl) ?_
          repeat (quiet_step (exact Calls.regrown_of (HS.out _ (hRg _ _ _ hR1))))
          refine wpQuiet_nil ?_
          intro _ hw'
          obtain ⟨⟨dq, osq⟩, hw''⟩ := hw'
          subst hw''
          have hR2 := hRg _ dq osq hR1
          generalize Go.Sort.grow (redrawn _ dq) osq = w5 at *
          go_wp2_with fail
          have HEnd := Lib.hid (show GathA S w.heap.size w5 _ (missTo l m (k + 1)) ∧ Below w.heap.size w w5 from
            ⟨by rw [HL.out]; exact HX.out.1.below (hR.below _ hR2), HX.out.2.trans ((hR.below _ hR2).mono HX.out.2.size)⟩)
          go_roundw
          case rel => exact ⟨k + 1, by omega, by go_num, scan_next Hs.out HE0.out, HEnd.out⟩
          case measure => simp [intOf]; omega
    · obtain rfl : k = n := by omega
      have Hst := Lib.hid (HX.out.1.store (by omega))
      have HB := Lib.hid HX.out.2
      have HF := Lib.hid (show rawL l m = missTo l m k ∧ rawE l m = 0 from ⟨by rw [HwL.out, HwE.out, Hs.out, if_pos rfl], by rw [HwE.out, Hs.out]⟩)
      go_wp2_with fail
      go_ret2
      rw [HF.out.1, HF.out.2]
      exact ⟨_, rfl, Hst.out, HB.out⟩
theorem diffOf_any (l m : List Obj) (lv mv : Value) (S S' : Nat → Prop) (w : World) (h : StoreV S w lv l) (hm : StoreV S' w mv m) (hr : Rising m) (hl : l.length ≤ 800) :
    Calls Try.prog 25 #[lv, mv] w fun e w' => RetStoreE w w' e (rawL l m) (rawE l m) := (diffA_any l m lv mv S S' w h hm hr hl).mono fun _ _ h => h.e
end Go.Proofs.Ytjkbaallfkjmhaa
