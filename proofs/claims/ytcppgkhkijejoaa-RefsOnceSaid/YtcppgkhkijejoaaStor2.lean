/- Walks: package store: what is wrong with a store: the program's Check and the reference's. -/
import Derived.Test.YtcppgkhkijejoaaObj2
import Derived.Test.YtcppgkhkijejoaaStor1
namespace Go.Proofs.Ytcppgkhkijejoaa
open Go.RowKit
set_option linter.unusedVariables false
set_option linter.unusedSimpArgs false

theorem StoreV.take {S : Nat → Prop} {w : World} {a : Option Addr} {n cap : Nat} {l : List Obj} (h : StoreV S w (.slice a n cap) l) {i : Nat} (hi : i ≤ l.length) : StoreV S w (.slice a i cap) (l.take i) := by
  obtain ⟨lvs, ⟨a', cap', hv, h1, h2, h3, h4⟩, h5⟩ := h
  cases hv
  have hl : (l.take i).length = i := by simp; omega
  refine ⟨lvs, ⟨a, cap, by rw [hl], by omega, h2, by omega, fun hp => ?_⟩, fun j hj => ?_⟩
  · rw [hl] at hp
    obtain ⟨b, off, ha, hS, hc⟩ := h4 (by omega)
    refine ⟨b, off, ha, hS, fun j hj m u hu => hc j (by omega) m u ?_⟩
    have hu' : (objCells (obj (l.take i) j) (lvs j))[m]? = some u := hu
    rw [obj_take (by omega)] at hu'; exact hu'
  · rw [obj_take (by omega)]; exact h5 j (by omega)

set_option maxHeartbeats 1000000 in
theorem kindOf_any (l : List Obj) (v : Value) (S : Nat → Prop) (id : Int) (w : World) (h : StoreV S w v l) :
    Calls Try.prog 40 #[v, .int .i64 id] w fun e w' => e = .returned (.int .i64 (kindOf l id)) ∧ w = w' := by
  obtain ⟨a, n, cap, la, ln, lc, HN, rfl, h1, h2, h3, h4, h5⟩ := h.open
  clear h h5
  have Hh := Lib.hid (fun k h1 hk he => kindOf_hit (l := l) (id := id) (k := k) h1 (by rw [← HN.out.1]; exact hk) he)
  have Hn := Lib.hid (fun h1 => kindOf_none (l := l) (id := id) (by rw [← HN.out.1]; exact h1))
  go_enter Try.func40, Try.ntmps40
  go_wp2
  go_loop [5] (fun i => ∃ k : Nat, k ≤ n ∧ i = .int .i64 k ∧ Hid (∀ j, j < k → (obj l j).id ≠ id)) (fun i => n - (intOf i).toNat)
  case atStart => exact ⟨0, by omega, rfl, fun j hj => absurd hj (by omega)⟩
  case round =>
    obtain ⟨k, hk, rfl, Hs⟩ := hrel
    by_cases hlt : k < n
    · obtain ⟨b, off, rfl, hb, k0, k1, k2, k3⟩ := h4 (by omega)
      have x0 := k0 k w hlt (Below.refl _ _)
      have x1 := k1 k w hlt (Below.refl _ _)
      clear h4 k0 k1 k2 k3
      by_cases he : (obj l k).id = id
      · have hq : ((obj l k).id == id) = true := by simpa using he
        have HK := Lib.hid (Hh.out k Hs.out hlt he)
        clear he
        go_wp2
        go_ret
        exact ⟨ret_int HK.out.symm, rfl⟩
      · have hq : ((obj l k).id == id) = false := by simpa using he
        have He := Lib.hid he; clear he
        go_wp2
        go_round
        case rel => exact ⟨k + 1, by omega, by go_num, all_next Hs.out He.out⟩
        case measure => simp [intOf]; omega
    · obtain rfl : k = n := by omega
      have HK := Lib.hid (Hn.out Hs.out)
      go_wp2
      go_ret
      exact ⟨ret_int HK.out.symm, rfl⟩

set_option maxHeartbeats 1000000 in
theorem objectAt_any (l : List Obj) (v : Value) (S : Nat → Prop) (id : Int) (w : World) (h : StoreV S w v l) :
    Calls Try.prog 48 #[v, .int .i64 id] w fun e w' => e = .returned (.int .i64 (atOf l id)) ∧ w = w' := by
  obtain ⟨a, n, cap, la, ln, lc, HN, rfl, h1, h2, h3, h4, h5⟩ := h.open
  clear h h5
  have Hh := Lib.hid (fun k h1 hk he => atOf_hit (l := l) (id := id) (k := k) h1 (by rw [← HN.out.1]; exact hk) he)
  have Hn := Lib.hid (fun h1 => atOf_none (l := l) (id := id) (by rw [← HN.out.1]; exact h1))
  go_enter Try.func48, Try.ntmps48
  go_wp2
  go_loop [5] (fun i => ∃ k : Nat, k ≤ n ∧ i = .int .i64 k ∧ Hid (∀ j, j < k → (obj l j).id ≠ id)) (fun i => n - (intOf i).toNat)
  case atStart => exact ⟨0, by omega, rfl, fun j hj => absurd hj (by omega)⟩
  case round =>
    obtain ⟨k, hk, rfl, Hs⟩ := hrel
    by_cases hlt : k < n
    · obtain ⟨b, off, rfl, hb, k0, k1, k2, k3⟩ := h4 (by omega)
      have x0 := k0 k w hlt (Below.refl _ _)
      clear h4 k0 k1 k2 k3
      by_cases he : (obj l k).id = id
      · have hq : ((obj l k).id == id) = true := by simpa using he
        have HK := Lib.hid (Hh.out k Hs.out hlt he)
        clear he
        go_wp2
        go_ret
        exact ⟨ret_int HK.out.symm, rfl⟩
      · have hq : ((obj l k).id == id) = false := by simpa using he
        have He := Lib.hid he; clear he
        go_wp2
        go_round
        case rel => exact ⟨k + 1, by omega, by go_num, all_next Hs.out He.out⟩
        case measure => simp [intOf]; omega
    · obtain rfl : k = n := by omega
      have HK := Lib.hid (Hn.out Hs.out)
      go_wp2
      go_ret
      exact ⟨ret_int HK.out.symm, rfl⟩

theorem linkScan {l : List Obj} {k : Nat} (hc : checkObj (obj l k) = 0) (hr : 0 < k → (obj l (k - 1)).id < (obj l k).id) {m : Nat} (hm : m < (obj l k).links.length)
    (hs : scan (fun j => linkErr (obj l k) j (kindOf (l.take k) (nth (obj l k).links j))) m = 0) {e : Int} (he : linkErr (obj l k) m (kindOf (l.take k) (nth (obj l k).links m)) = e) (hne : e ≠ 0) : objErr l k = e := by
  rw [objErr_links hc hr, scan_hit hs (by rw [he]; exact hne) hm, he]

set_option maxRecDepth 100000 in
set_option maxHeartbeats 4000000 in
theorem storeCheck_any (l : List Obj) (v : Value) (S : Nat → Prop) (w : World) (h : StoreV S w v l) :
    Calls Try.prog 44 #[v] w fun e w' => e = .returned (.int .i64 (checkStore l)) ∧ Below w.heap.size w w' := by
  have h' := h
  obtain ⟨a, n, cap, la, ln, lc, HN, rfl, h1, h2, h3, h4, h5⟩ := h.open
  clear h
  obtain ⟨R, hR, hR1, _⟩ := cls_plain w
  have hRb := hR.below
  have hRn := hR.next
  have hRg := cls_grown hR
  by_cases h40 : 40 < n
  · have He := Lib.hid (checkStore_many (l := l) (by rw [← HN.out.1]; exact h40))
    go_enter Try.func44, Try.ntmps44
    go_wp2_with fail
    go_ret
    exact ⟨ret_int He.out.symm, hRb _ hR1⟩
  · have hl40 : l.length ≤ 40 := by rw [← HN.out.1]; omega
    have Hbad := Lib.hid (fun i e (h0 : scan (objErr l) i = 0) (hi : i < n) (he : objErr l i = e) (hne : e ≠ 0) => checkStore_bad hl40 h0 (by rw [← HN.out.1]; exact hi) he hne)
    have Hok := Lib.hid (fun (h0 : scan (objErr l) n = 0) => checkStore_ok hl40 (by rw [← HN.out.1]; exact h0))
    clear hl40
    go_enter Try.func44, Try.ntmps44
    go_wp2_with fail
    go_loopw [14] (fun i wr => ∃ k : Nat, k ≤ n ∧ i = .int .i64 k ∧ Hid (scan (objErr l) k = 0) ∧ In R wr) (fun i _ => n - (intOf i).toNat)
    case atStart => exact ⟨0, by omega, rfl, rfl, hR1⟩
    case round =>
      obtain ⟨k, hk, rfl, Hs, hRw⟩ := hrel
      clear hR1
      obtain ⟨wo, rfl⟩ : ∃ wo : World, wo = wr := ⟨_, rfl⟩
      by_cases hlt : k < n
      · obtain ⟨b, off, rfl, hb, k0, k1, k2, k3⟩ := h4 (by omega)
        have x0 := k0 k wo hlt (hRb _ hRw)
        have x1 := k1 k wo hlt (hRb _ hRw)
        have x2 := k2 k wo hlt (hRb _ hRw)
        have x3 := k3 k wo hlt (hRb _ hRw)
        have ho := h5 k hlt
        have Hrt := Lib.hid (scan_rising (l := l) (n := k) (by rw [← HN.out.1]; omega) Hs.out)
        have Hk0 := Lib.hid k0
        have Hln := Lib.hid (HN.out.2 k)
        clear h4 h5 k0 k1 k2 k3
        generalize la k = a2 at *
        generalize ln k = n2 at *
        generalize lc k = c2 at *
        obtain ⟨Q, hQ, hQ1, y0, y1, y2, y3⟩ := cls_box4 wo (.int .i64 (obj l k).id) (.int .i64 (obj l k).kind) (.slice a2 n2 c2) (.string (obj l k).text) 24
        have hQb : ∀ x, In Q x → Below w.heap.size w x := fun x hx => below_next (hRb _ hRw) (hQ.below x hx)
        have hQn := hQ.next
        by_cases hz : checkObj (obj l k) = 0
        · have hz' : (checkObj (obj l k) != 0) = false := by simpa using hz
          have Hz := Lib.hid hz; clear hz
          have HT := Lib.hid (fun x (hx : In Q x) => (h'.take (i := k) (by rw [← HN.out.1]; omega)).below (hQb x hx))
          obtain ⟨a3, n3, c3, HN3, hv3, g1, g2, g3, g4⟩ := ho.1.open
          cases hv3
          have HL := Lib.hid HN3.out; clear HN3 Hln
          go_wp2_with (go_at_call 18; refine (check_any (obj l k) _ S _ (ho.below (hQb _ hQ1))).mono ?_; rintro e w2 ⟨rfl, hb2⟩; have hQ2 := hQn _ _ hQ1 hb2; clear x0 x1 x2 x3)
          clear hb2 hz'
          by_cases hst : 0 < k ∧ (obj l k).id ≤ (obj l (k - 1)).id
          · obtain ⟨hk0, hle⟩ := hst
            have hkm : ∀ x, In Q x → x.cell? ⟨b, off + (k - 1) * 4, none⟩ = some (.int .i64 (obj l (k - 1)).id) := fun x hx => Hk0.out (k - 1) x (by omega) (hQb x hx)
            have hi3 : (0 : Int) ≤ (k : Int) - 1 := by omega
            have hi4 : (1 : Int) ≤ (k : Int) := by omega
            have hi5 : (k : Int) - 1 < (n : Int) := by omega
            have hi6 : (0 : Int) < (k : Int) := by omega
            have hwr2 := wrap_in (n := (k : Int) - 1) (by omega)
            have htn : ((k : Int) - 1).toNat = k - 1 := by omega
            have hQd := hQ.drewN
            go_quiet (fail)
            go_wp2
            go_ret
            exact ⟨ret_int (Hbad.out k _ Hs.out hlt (objErr_state Hz.out hk0 hle) (by decide)).symm, hQb _ (hQd _ _ hQ2)⟩
          have Hst := Lib.hid (fun (h0 : 0 < k) => show (obj l (k - 1)).id < (obj l k).id from Int.not_le.1 (fun hle => hst ⟨h0, hle⟩))
          clear hst
          rcases Classical.em (0 < k) with hk0 | hk0
          case' inl =>
            have hkm : ∀ x, In Q x → x.cell? ⟨b, off + (k - 1) * 4, none⟩ = some (.int .i64 (obj l (k - 1)).id) := fun x hx => Hk0.out (k - 1) x (by omega) (hQb x hx)
            have hi3 : (0 : Int) ≤ (k : Int) - 1 := by omega
            have hi4 : (1 : Int) ≤ (k : Int) := by omega
            have hi5 : (k : Int) - 1 < (n : Int) := by omega
            have hi6 : (0 : Int) < (k : Int) := by omega
            have hwr2 := wrap_in (n := (k : Int) - 1) (by omega)
            have htn : ((k : Int) - 1).toNat = k - 1 := by omega
            have hlts := Hst.out hk0
            have hQd := hQ.drewN
            go_quiet (fail)
            clear hkm hi3 hi4 hi5 hi6 hwr2 htn
          case' inr =>
            have hd : decide ((0 : Int) < (k : Int)) = false := by simp; omega
            have hQd := hQ.drewN
            go_quiet (fail)
          all_goals
            have hQ3 := hQd _ nq hQ2
            clear hQ1 hQ2 hQd
            generalize w2.drewN nq = w3 at *
            go_wp2_with fail
            (try clear hd)
            (try clear hlts)
            have hQg := cls_grown hQ
            go_loopw [40] (fun i wr => ∃ m : Nat, m ≤ n2 ∧ i = .int .i64 m ∧ Hid (scan (fun j => linkErr (obj l k) j (kindOf (l.take k) (nth (obj l k).links j))) m = 0) ∧ In Q wr) (fun i _ => n2 - (intOf i).toNat)
            case atStart => exact ⟨0, by omega, rfl, rfl, hQ3⟩
            case round =>
              obtain ⟨m, hm, rfl, Hm, hQw⟩ := hrel
              clear hQ3
              by_cases hmlt : m < n2
              · obtain ⟨b', off', rfl, hb', hcell⟩ := g4 (by omega)
                have hcm : ∀ x, In Q x → x.cell? ⟨b', off' + m, none⟩ = some (.int .i64 (nth (obj l k).links m)) := fun x hx => hcell m x hmlt (hQb x hx)
                clear hcell g4
                have hi1 : (0 : Int) ≤ (k : Int) := by omega
                have hi2 : (k : Int) ≤ (n : Int) := by omega
                have hi3 : (k : Int) ≤ (cap : Int) := by omega
                by_cases hle : linkErr (obj l k) m (kindOf (l.take k) (nth (obj l k).links m)) = 0
                · have hq : (linkErr (obj l k) m (kindOf (l.take k) (nth (obj l k).links m)) != 0) = false := by simpa using hle
                  have Hle := Lib.hid hle; clear hle
                  go_wp2_with fail
                  refine wp_region_quiet_below (by kernel_rfl) (by kernel_rfl) ?_
                  repeat (quiet_step (first | exact Calls.regrown_of (kind_any (l.take k) _ S _ _ (HT.out _ (hQg _ _ _ hQw)) Hrt.out) | exact Calls.regrown_of (linked_any (obj l k) _ _ _ _ _ m _ rfl)))
                  refine wpQuiet_nil ?_
                  intro _ hw'
                  obtain ⟨⟨dq, osq⟩, hw''⟩ := hw'
                  subst hw''
                  have hQ4 := hQg _ dq osq hQw
                  generalize Go.Sort.grow (redrawn wr dq) osq = w4 at *
                  go_wp2
                  go_roundw
                  case rel => exact ⟨m + 1, by omega, by go_num, scan_next Hm.out Hle.out, hQ4⟩
                  case measure => simp [intOf]; omega
                · have hq : (linkErr (obj l k) m (kindOf (l.take k) (nth (obj l k).links m)) != 0) = true := by simpa using hle
                  have Hle := Lib.hid (linkScan Hz.out Hst.out (by rw [← HL.out]; exact hmlt) Hm.out rfl hle)
                  have Hne := Lib.hid hle; clear hle
                  go_wp2_with fail
                  refine wp_region_quiet_below (by kernel_rfl) (by kernel_rfl) ?_
                  repeat (quiet_step (first | exact Calls.regrown_of (kind_any (l.take k) _ S _ _ (HT.out _ (hQg _ _ _ hQw)) Hrt.out) | exact Calls.regrown_of (linked_any (obj l k) _ _ _ _ _ m _ rfl)))
                  refine wpQuiet_nil ?_
                  intro _ hw'
                  obtain ⟨⟨dq, osq⟩, hw''⟩ := hw'
                  subst hw''
                  have hQ4 := hQg _ dq osq hQw
                  generalize Go.Sort.grow (redrawn wr dq) osq = w4 at *
                  go_wp2
                  go_ret
                  exact ⟨ret_int (Hbad.out k _ Hs.out hlt Hle.out Hne.out).symm, hQb _ hQ4⟩
              · obtain rfl : m = n2 := by omega
                have Hm2 := Lib.hid (scan_next Hs.out ((objErr_links Hz.out Hst.out).trans (by rw [← HL.out]; exact Hm.out)))
                go_wp2
                go_roundw
                case rel => exact ⟨k + 1, by omega, by go_num, Hm2.out, hR.next _ _ hRw (hQ.below _ hQw)⟩
                case measure => simp [intOf]; omega
        · have hz' : (checkObj (obj l k) != 0) = true := by simpa using hz
          have Hz := Lib.hid hz
          clear hz
          go_wp2_with (go_at_call 18; refine (check_any (obj l k) _ S _ (ho.below (hQb _ hQ1))).mono ?_; rintro e w2 ⟨rfl, hb2⟩; have hQ2 := hQn _ _ hQ1 hb2; clear x0 x1 x2 x3)
          go_ret
          exact ⟨ret_int (Hbad.out k _ Hs.out hlt (objErr_bad Hz.out) Hz.out).symm, hQb _ hQ2⟩
      · obtain rfl : k = n := by omega
        have He := Lib.hid (Hok.out Hs.out)
        go_wp2_with fail
        go_ret
        exact ⟨ret_int He.out.symm, hRb _ hRw⟩
end Go.Proofs.Ytcppgkhkijejoaa
