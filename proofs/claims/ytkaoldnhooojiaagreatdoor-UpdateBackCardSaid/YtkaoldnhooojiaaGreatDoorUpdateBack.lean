
/- Walks: the law UpdateBack. -/
import Derived.Test.YtkaoldnhooojiaaGreatDoorUpdateTells
import Derived.Test.YtkaoldnhooojiaaGreatDoorLeadP
namespace Go.Proofs.YtkaoldnhooojiaaGreatDoor
open Go.RowKit
set_option linter.unusedVariables false
set_option linter.unusedSimpArgs false

def backTo (us : List Mv) (k : Nat) : List Mv := (us.take k).map backMv
theorem back_next {us : List Mv} {k : Nat} (h : k < us.length) : backTo us (k + 1) = backTo us k ++ [backMv (mv us k)] := by
  unfold backTo; rw [List.take_succ_eq_append_getElem h, List.map_append, mv_lt h]; rfl
theorem back_length (us : List Mv) (k : Nat) : (backTo us k).length ≤ k := by unfold backTo; rw [List.length_map, List.length_take]; omega
theorem back_all (us : List Mv) : backTo us us.length = us.map backMv := by unfold backTo; rw [List.take_length]
/-- is a name told of among the first? -/
def toldTo (us : List Mv) (s : ByteArray) (k : Nat) : Bool := (us.take k).any fun u => u.name.toList == s.toList
theorem told_next {us : List Mv} {s : ByteArray} {k : Nat} (h : k < us.length) : toldTo us s (k + 1) = (toldTo us s k || ((mv us k).name.toList == s.toList)) := by
  unfold toldTo; rw [List.take_succ_eq_append_getElem h, List.any_append, mv_lt h]; simp
theorem told_none {us : List Mv} {s : ByteArray} (h : toldTo us s us.length = false) : ∀ u ∈ us, u.name ≠ s := fun u hu e => by
  unfold toldTo at h
  rw [List.take_length] at h
  have := List.any_eq_false.1 h u hu
  rw [e] at this
  simp at this

set_option maxRecDepth 100000 in
set_option maxHeartbeats 8000000 in
theorem updateBack_any (l : List Rf) (objs : List Obj) (us : List Mv) (force : Bool) (lv ov uv : Value) (S S2 S3 : Nat → Prop) (w : World) (h : RefsV S w lv l) (ho : StoreV S2 w ov objs) (hu : MvsV S3 w uv us) :
    Calls Tryz.prog 4 #[lv, ov, uv, .bool force] w fun e w' => e = .returned (.bool true) ∧ Below w.heap.size w w' := by
  have HK0 := Lib.hid (show Keep [cB w, cRu S lv l, cS S2 ov objs, cMu S3 uv us] w from ⟨Below.refl _ _, h, ho, hu, trivial⟩)
  have HA := Lib.hid (fun h => applied (l := l) (objs := objs) (us := us) (force := force) h)
  have HA0 := Lib.hid (fun (h : applyE l objs us force ≠ 0) => show applyR l objs us force = [] by unfold applyR; rw [if_neg h])
  have HAp := Lib.hid (fun l us force x v1 v2 v3 (S S2 S3 : Nat → Prop) (h1 : RefsV S x v1 l) (h2 : StoreV S2 x v2 objs) (h3 : MvsV S3 x v3 us) => apply_any l objs us force v1 v2 v3 _ _ _ x h1 h2 h3)
  obtain ⟨⟨la, lc⟩, rfl⟩ := h.shape
  obtain ⟨oa, oc, rfl⟩ := ho.vshape
  obtain ⟨⟨ua, uc⟩, rfl⟩ := hu.shape
  clear h ho hu
  generalize hR : applyR l objs us force = R at *
  have HAw := Lib.hid (HAp.out l us force w _ _ _ _ _ _ HK0.out.2.1 HK0.out.2.2.1 HK0.out.2.2.2.1)
  rw [hR] at HAw
  clear hR
  by_cases hE : applyE l objs us force = 0
  case neg =>
    have hq : (applyE l objs us force != 0) = true := by simpa using hE
    have h0 := HA0.out hE
    clear hE HA HA0 HAp
    generalize applyE l objs us force = E at *
    have hl : R.length = 0 := by rw [h0]; rfl
    clear h0
    go_enter Tryz.func4, Tryz.ntmps4
    go_wp2_with fail
    refine HAw.out.mono ?_
    rintro e w1 ⟨v1, rfl, hv1, hb1⟩
    obtain ⟨⟨p1, c1⟩, rfl⟩ := hv1.shape
    rw [hl]
    have HK1 := Lib.hid (HK0.out.below hb1)
    clear hv1 hb1 HK0 HAw
    go_wp2_with fail
    refine (updateBegun_any _).mono ?_
    rintro e w2 ⟨rfl, hb2⟩
    have HB := Lib.hid (HK1.out.below hb2).1
    clear hb2 HK1
    go_wp2_with fail
    go_ret
    exact ⟨rfl, HB.out⟩
  case pos =>
    have HA1 := Lib.hid (HA.out hE)
    rw [hE] at HAw
    clear hE HA HA0
    have hn4 := HA1.out.mvs.many
    have hn0 := HA1.out.mvs.some
    have hl8 : l.length ≤ 8 := (checkRefs_zero.1 HA1.out.refs).2.many
    have Hmv := Lib.hid (fun k (hk : k < us.length) => show MvOk (backMv (mv us k)) from by
      have hm := mv_mem hk
      have h1 := HA1.out.mvs.old _ hm
      have h2 := HA1.out.mvs.new _ hm
      have h3 := name_size (HA1.out.mvs.name _ hm)
      exact ⟨small64 _ (by show 0 ≤ (mv us k).new ∧ (mv us k).new ≤ 1000; omega), small64 _ (by show 0 ≤ (mv us k).old ∧ (mv us k).old ≤ 1000; omega), by show (mv us k).name.size ≤ _; omega⟩)
    -- TAIL
    obtain ⟨n, hn⟩ : ∃ n, n = us.length := ⟨_, rfl⟩
    obtain ⟨m, hm⟩ : ∃ m, m = l.length := ⟨_, rfl⟩
    rw [← hn] at HK0 HAw hn4 hn0 Hmv ⊢
    rw [← hm] at HK0 HAw hl8 ⊢
    have Hn := Lib.hid hn
    have Hm := Lib.hid hm
    clear hn hm
    have Hbn := Lib.hid (fun k (hk : k < n) => back_next (us := us) (k := k) (by rw [← Hn.out]; exact hk))
    have Hmo := Lib.hid (fun k (hk : k < n) => movesTo_next (us := us) (i := k) (by rw [← Hn.out]; exact hk))
    have Hbl := Lib.hid (back_length us)
    have Hid1 := Lib.hid (fun k (hk : k < n) => show idOf R (mv us k).name = (mv us k).new from HA1.out.told (mv_mem (by rw [← Hn.out]; exact hk)))
    go_enter Tryz.func4, Tryz.ntmps4
    go_wp2_with fail
    refine HAw.out.mono ?_
    rintro e w1 ⟨v1, rfl, hv1, hb1⟩
    have HK1 := Lib.hid (Keep.push (c := cRu (fun _ => True) v1 R) (HK0.out.below hb1) (hv1.weaken fun _ _ => trivial))
    obtain ⟨⟨p1, c1⟩, rfl⟩ := hv1.shape
    clear hv1 hb1 HK0 HAw
    go_wp2_with fail
    refine (updateBegun_any _).mono ?_
    rintro e w2 ⟨rfl, hb2⟩
    have HK2 := Lib.hid (HK1.out.below hb2)
    clear hb2 HK1
    obtain ⟨a0, n0, c0, HN0, e0, _, _, _, h4⟩ := HK2.out.2.2.2.2.1.open
    cases e0
    obtain ⟨b, off, rfl, hbS, k0, k1, k2⟩ := h4 (by omega)
    clear h4 HN0
    obtain ⟨C, hC, hC1, hCall⟩ := cls_plain w2
    have hCb := hC.below
    have hCdr := hC.drew
    have hCg := cls_grown hC
    have HH := Lib.hid (fun x (hx : In C x) (w5 : World) (v : Value) (hu5 : Upd (fun b => Value.ownBlock v = some b) x w5) (hv : ∀ g, Value.ownBlock v = some g → w2.heap.size ≤ g) => show In C w5 from hCall _ ((hCb _ hx).trans (hu5.below (B := w2.heap.size) (hCb _ hx).size hv)))
    have HI := Lib.hid (fun nm x (hx : In C x) => show Calls Tryz.prog 18 #[.slice p1 R.length c1, .string nm] x fun e w' => e = .returned (.int .i64 (idOf R nm)) ∧ Below x.heap.size x w' from (idOf_any R _ _ nm x (HK2.out.below (hCb _ hx)).1).mono fun _ _ h => ⟨h.1, h.2 ▸ Below.refl _ _⟩)
    go_wp2_with fail
    go_loopw [11, 12, 13] (fun v s12 i wr => ∃ k : Nat, k ≤ n ∧ i = .int .i64 k ∧ s12 = .bool (movesTo us k) ∧ Hid (OwnU w2.heap.size wr v (backTo us k)) ∧ In C wr) (fun _ _ i _ => n - (intOf i).toNat)
    case atStart => exact ⟨0, by omega, rfl, by unfold movesTo movesU; rfl, OwnU.nil _ _, hC1⟩
    case round =>
      obtain ⟨k, hk, rfl, rfl, HO, hCw⟩ := hrel
      clear hC1
      obtain ⟨va, vc, hvs⟩ := HO.out.shape
      have hvl := Hbl.out k
      obtain ⟨vn, hvn⟩ : ∃ vn, vn = (backTo us k).length := ⟨_, rfl⟩
      rw [← hvn] at hvs hvl
      have Hvn := Lib.hid hvn
      clear hvn
      subst hvs
      by_cases hlt : k < n
      case pos =>
        have x0 := fun x (hx : In C x) => k0 k x hlt (hCb _ hx)
        have x1 := fun x (hx : In C x) => k1 k x hlt (hCb _ hx)
        have x2 := fun x (hx : In C x) => k2 k x hlt (hCb _ hx)
        have hi1 : (0 : Int) ≤ (k : Int) := by omega
        have hi2 : (k : Int) < (n : Int) := by omega
        have Hok := Lib.hid (Hmv.out k hlt)
        have Hbk := Lib.hid (Hbn.out k hlt)
        have Hmk := Lib.hid (Hmo.out k hlt)
        have hik := HI.out (mv us k).name
        rw [Hid1.out k hlt] at hik
        have HIk := Lib.hid hik
        have Hl32 := Lib.hid (show ((backTo us k).length + 1) * 32 ≤ 140737488351232 by rw [← Hvn.out]; omega)
        clear k0 k1 k2 hik
        go_wp2_with fail
        have hCd0 := hCdr _ hCw
        have hBs := (hCb _ hCd0).size
        have HGd := Lib.hid (HO.out.below (Below.refl _ _).drew)
        have x0d := x0 _ hCd0
        have x1d := x1 _ hCd0
        have x2d := x2 _ hCd0
        go_region_law (refine step_append_mv (p := ⟨(mv us k).name, (mv us k).new, (mv us k).old⟩) (by rfl) _ _ (by rfl) HGd.out Hok.out Hl32.out hBs (by rfl) (by rfl) (by rfl) ?_; intro g9 c9 w5 hG5 hu5)
        all_goals
          have hC5 := HH.out _ hCd0 w5 _ hu5 (fun g hg => (HGd.out.block hg).1)
          have HE5 := Lib.hid (show OwnU w2.heap.size w5 _ (backTo us (k + 1)) from by rw [Hbk.out]; exact hG5)
          clear hG5 hu5 x0d x1d x2d HGd HO hBs hCd0 hCw
          obtain ⟨D, hD, hD1, _⟩ := cls_plain w5
          have hDb := hD.below
          have hDg := cls_grown hD
          have hDC : ∀ x, In D x → In C x := fun x hx => hC.next _ _ hC5 (hDb _ hx)
          have y0 := fun x (hx : In D x) => x0 x (hDC x hx)
          have y1 := fun x (hx : In D x) => x1 x (hDC x hx)
          have y2 := fun x (hx : In D x) => x2 x (hDC x hx)
          have HID := Lib.hid (fun x (hx : In D x) => HIk.out x (hDC x hx))
          clear x0 x1 x2
          go_wp2_with fail
          cases hmo : movesTo us k
          all_goals
            rw [hmo] at Hmk
            refine wp_region_quiet_below (by kernel_rfl) (by kernel_rfl) ?_
            repeat (first | go_big_quiet_skip | quiet_step (fail))
            refine wpQuiet_nil ?_
            intro _ hw'
            obtain ⟨⟨dq, osq⟩, hw''⟩ := hw'
            subst hw''
            have hD2 := hDg _ dq osq hD1
            generalize Go.Sort.grow (redrawn _ dq) osq = x6 at *
            clear hD1
            go_wp2_with fail
            refine wp_region_quiet_below (by kernel_rfl) (by kernel_rfl) ?_
            repeat (first | go_big_quiet_skip | quiet_step (exact Calls.regrown_of (HID.out _ (hDg _ _ _ hD2))))
            refine wpQuiet_nil ?_
            intro _ hw'
            obtain ⟨⟨dq, osq⟩, hw''⟩ := hw'
            subst hw''
            have hD3 := hDg _ dq osq hD2
            generalize Go.Sort.grow (redrawn _ dq) osq = x7 at *
            clear hD2
            have HE7 := Lib.hid (HE5.out.below (hDb _ hD3))
            have hC7 := hDC _ hD3
            clear y0 y1 y2 HID hD3 hDg HE5
            go_wp2_with fail
            go_roundw
            case rel => exact ⟨k + 1, by omega, by go_num, by rw [Hmk.out]; rfl, HE7.out, hC7⟩
            case measure => simp [intOf]; omega
      case neg =>
        obtain rfl : k = n := by omega
        have HKw := Lib.hid (HK2.out.below (hCb _ hCw))
        have hvb : vn = (us.map backMv).length := by rw [Hvn.out, Hn.out, back_all]
        have HOb := Lib.hid (show MvsV (fun _ => True) wr (.slice va vn vc) (us.map backMv) from by have := (HO.out.mvs (by rw [← Hvn.out]; omega)).weaken (S' := fun _ => True) fun _ _ => trivial; rw [Hn.out, back_all] at this; exact this)
        have hbk := HA1.out.back.of
        have hA1 := HAp.out R (us.map backMv) true wr _ _ _ _ _ _ HKw.out.1 HKw.out.2.2.2.1 HOb.out
        rw [hbk.1, hbk.2] at hA1
        have HA2 := Lib.hid hA1
        have Hall := Lib.hid (show movesTo us k = movesU us by rw [Hn.out]; exact movesTo_all us)
        have Htw := Lib.hid (fun (h : movesU us = true) => HA1.out.twice h)
        clear hbk hA1 hvb HO HOb hCw hCb hCdr hCg HH HI hC hCall Hbn Hmo Hbl Hid1 Hmv HK2 k0 k1 k2 Hvn
        rw [Hall.out]
        go_wp2_with fail
        refine HA2.out.mono ?_
        rintro e w3 ⟨v3, rfl, hv3, hb3⟩
        have HK3 := Lib.hid (Keep.push (c := cRu (fun _ => True) v3 l) (HKw.out.below hb3) (hv3.weaken fun _ _ => trivial))
        obtain ⟨⟨p3, c3⟩, rfl⟩ := hv3.shape
        rw [← Hm.out] at HK3 ⊢
        clear hv3 hb3 HKw HA2
        have HA3 := Lib.hid (HAp.out R us force w3 _ _ _ _ _ _ HK3.out.2.1 HK3.out.2.2.2.2.1 HK3.out.2.2.2.2.2.1)
        go_wp2_with fail
        refine HA3.out.mono ?_
        rintro e w4 ⟨v4, rfl, hv4, hb4⟩
        obtain ⟨⟨p4, c4⟩, rfl⟩ := hv4.shape
        have HK4 := Lib.hid (HK3.out.below hb4)
        clear hv4 hb4 HK3 HA3 HAp
        have hS := sameRefs_any l l _ _ _ _ w4 HK4.out.1 HK4.out.2.2.2.1
        rw [(sameRefs_iff l l).2 rfl] at hS
        have HS := Lib.hid hS
        clear hS
        have Hst := Lib.hid (fun nm j (hj : j < m) (h : toldTo us nm k = false) (e : nm = (rf l j).name) => show idOf R nm = (rf l j).id from by
          rw [Hn.out] at h
          rw [HA1.out.stays (told_none h), e]
          exact idOf_mem HA1.out.asc0 (rf_mem (by rw [← Hm.out]; exact hj)))
        have Htn := Lib.hid (fun nm q (hq : q < k) => told_next (us := us) (s := nm) (k := q) (by rw [← Hn.out]; exact hq))
        have HGen := Lib.hid (show movesU us = false ∨ (movesU us = true ∧ applyE R objs us force = 4) from by
          cases h : movesU us
          · exact .inl rfl
          · exact .inr ⟨rfl, Htw.out h⟩)
        clear Htw Hall HA1
        generalize movesU us = mo at *
        generalize applyE R objs us force = G at *
        rcases HGen.out with rfl | ⟨rfl, rfl⟩
        all_goals
          clear HGen
          go_wp2_with fail
          refine HS.out.mono ?_
          rintro e w6 ⟨rfl, hb6⟩
          have HK6 := Lib.hid (HK4.out.below hb6)
          clear hb6 HK4 HS
          obtain ⟨a5, n5, c5, HN5, e5, _, _, _, h45⟩ := HK6.out.2.2.2.2.2.1.open
          cases e5
          obtain ⟨b5, off5, e5, hbS5, k0, k1, k2⟩ := h45 (by omega)
          cases e5
          clear h45 HN5
          obtain ⟨a6, n6, c6, HN6, e6, _, _, _, h46, _⟩ := HK6.out.2.2.2.1.open
          cases e6
          clear HN6
          obtain ⟨C, hC, hC1, hCall⟩ := cls_plain w6
          have hCb := hC.below
          have hCg := cls_grown hC
          have HI := Lib.hid (fun nm x (hx : In C x) => show Calls Tryz.prog 18 #[.slice p1 R.length c1, .string nm] x fun e w' => e = .returned (.int .i64 (idOf R nm)) ∧ Below x.heap.size x w' from (idOf_any R _ _ nm x (HK6.out.below (hCb _ hx)).2.1).mono fun _ _ h => ⟨h.1, h.2 ▸ Below.refl _ _⟩)
          have HBw := Lib.hid (fun x (hx : In C x) => (HK6.out.below (hCb _ hx)).2.2.1)
          clear HK6
          go_wp2_with fail
          go_loopw [18] (fun i wy => ∃ j : Nat, j ≤ m ∧ i = .int .i64 j ∧ In C wy) (fun i _ => m - (intOf i).toNat)
          case atStart => exact ⟨0, by omega, rfl, hC1⟩
          case round =>
            obtain ⟨j, hj, rfl, hCw⟩ := hrel
            clear hC1
            by_cases hlt2 : j < m
            case neg =>
              obtain rfl : j = m := by omega
              have HB := Lib.hid (HBw.out _ hCw)
              go_wp2_with fail
              go_ret
              exact ⟨rfl, HB.out⟩
            case pos =>
              obtain ⟨b6, off6, e6, hbS6, r0, r1⟩ := h46 (by omega)
              cases e6
              have y0 := fun x (hx : In C x) => r0 j x hlt2 (hCb _ hx)
              have y1 := fun x (hx : In C x) => r1 j x hlt2 (hCb _ hx)
              clear r0 r1 h46
              have hj1 : (0 : Int) ≤ (j : Int) := by omega
              have hj2 : (j : Int) < (m : Int) := by omega
              have Hst2 := Lib.hid (fun (h : toldTo us (rf l j).name k = false) => Hst.out (rf l j).name j hlt2 h rfl)
              have Htn2 := Lib.hid (Htn.out (rf l j).name)
              have HInm := Lib.hid (HI.out (rf l j).name)
              generalize (rf l j).name = nm at *
              generalize (rf l j).id = rid at *
              go_wp2_with fail
              go_loopw [19, 20] (fun s19 s20 wx => ∃ q : Nat, q ≤ k ∧ s20 = .int .i64 q ∧ s19 = .bool (toldTo us nm q) ∧ In C wx) (fun _ i _ => k - (intOf i).toNat)
              case atStart => exact ⟨0, by omega, rfl, by unfold toldTo; rfl, hCw⟩
              case round =>
                obtain ⟨q, hq, rfl, rfl, hCx⟩ := hrel
                clear hCw
                by_cases hqn : q < k
                case pos =>
                  have x0 := fun x (hx : In C x) => k0 q x hqn (hCb _ hx)
                  have hi1 : (0 : Int) ≤ (q : Int) := by omega
                  have hi2 : (q : Int) < (k : Int) := by omega
                  have Hnx := Lib.hid (Htn2.out q hqn)
                  clear k0 k1 k2
                  cases ht : toldTo us nm q
                  all_goals
                    rw [ht] at Hnx
                    go_wp2_with fail
                    refine wp_region_quiet_below (by kernel_rfl) (by kernel_rfl) ?_
                    repeat (first | go_big_quiet_skip | quiet_step (fail))
                    refine wpQuiet_nil ?_
                    intro _ hw'
                    obtain ⟨⟨dq, osq⟩, hw''⟩ := hw'
                    subst hw''
                    have hC2 := hCg _ dq osq hCx
                    generalize Go.Sort.grow (redrawn _ dq) osq = x3 at *
                    clear hCx x0 y0 y1
                    go_wp2_with fail
                    go_roundw
                    case rel => exact ⟨q + 1, by omega, by go_num, by rw [Hnx.out]; rfl, hC2⟩
                    case measure => simp [intOf]; omega
                case neg =>
                  obtain rfl : q = k := by omega
                  cases ht : toldTo us nm q
                  case true =>
                    go_wp2_with fail
                    refine wp_region_quiet_below (by kernel_rfl) (by kernel_rfl) ?_
                    repeat (first | go_big_quiet_skip | quiet_step (fail))
                    refine wpQuiet_nil ?_
                    intro _ hw'
                    obtain ⟨⟨dq, osq⟩, hw''⟩ := hw'
                    subst hw''
                    have hC2 := hCg _ dq osq hCx
                    generalize Go.Sort.grow (redrawn _ dq) osq = x3 at *
                    clear hCx y0 y1 k0 k1 k2
                    go_wp2_with fail
                    go_roundw
                    case rel => exact ⟨j + 1, by omega, by go_num, hC2⟩
                    case measure => simp [intOf]; omega
                  case false =>
                    have hst := Hst2.out ht
                    rw [hst] at HInm
                    clear hst
                    go_wp2_with fail
                    refine wp_region_quiet_below (by kernel_rfl) (by kernel_rfl) ?_
                    repeat (first | go_big_quiet_skip | quiet_step (exact Calls.regrown_of (HInm.out _ (hCg _ _ _ hCx))))
                    refine wpQuiet_nil ?_
                    intro _ hw'
                    obtain ⟨⟨dq, osq⟩, hw''⟩ := hw'
                    subst hw''
                    have hC2 := hCg _ dq osq hCx
                    generalize Go.Sort.grow (redrawn _ dq) osq = x3 at *
                    clear hCx y0 y1 k0 k1 k2
                    go_wp2_with fail
                    go_roundw
                    case rel => exact ⟨j + 1, by omega, by go_num, hC2⟩
                    case measure => simp [intOf]; omega
end Go.Proofs.YtkaoldnhooojiaaGreatDoor
