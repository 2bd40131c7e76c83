/- Walks: what is wrong with a store: the reference's CheckStore. -/
import Derived.Test.YtcppgkhkijejoaaStor2
import Derived.Deep.DeepCutAuto
namespace Go.Proofs.Ytcppgkhkijejoaa
open Go.RowKit
set_option linter.unusedVariables false
set_option linter.unusedSimpArgs false

theorem links_kind {o : Obj} (h : checkObj o = 0) (hn : 0 < o.links.length) : o.kind = 2 ∨ o.kind = 3 := by
  obtain ⟨h1, h2, h3, h4, h5⟩ := checkObj_ok h
  unfold linksErr at h5
  by_cases h0 : scan (linkBad o) o.links.length = 0
  · rw [h0, if_neg (by simp)] at h5
    cases hf : formBad o
    · have hne : o.kind ≠ 1 := fun e => by simp [formBad, e, hn] at hf
      omega
    · rw [hf, if_pos rfl] at h5; exact absurd h5 (by decide)
  · rw [if_pos h0] at h5; exact absurd h5 h0

/-- what is wrong with a link, of an object that has links, to a kind that there is: as the reference asks -/
theorem linkErr_tests (o : Obj) (m : Nat) (kd : Int) (ho : o.kind = 2 ∨ o.kind = 3) (hk : kd = 1 ∨ kd = 2 ∨ kd = 3) :
    decide (linkErr o m kd ≠ 0) = (((o.kind == 2) && (kd == 3)) || ((o.kind == 3) && ((m : Int) == 0) && (kd != 2)) || ((o.kind == 3) && decide (0 < m) && (kd != 3))) := by
  have hm : ((m : Int) == 0) = decide (m = 0) := by rw [Bool.eq_iff_iff]; simp
  unfold linkErr
  rw [hm]
  by_cases h0 : m = 0 <;> rcases ho with ho | ho <;> rcases hk with rfl | rfl | rfl <;> simp [ho, h0] <;> omega

theorem linkErr_val {o : Obj} {m : Nat} {kd : Int} (hk : kd ≠ 0) (h : linkErr o m kd ≠ 0) : linkErr o m kd = 7 := by
  unfold linkErr at h ⊢
  rw [if_neg hk] at h ⊢
  by_cases hc : (if o.kind = 3 then (kd = 2 ∧ m = 0) ∨ (kd = 3 ∧ 0 < m) else kd = 1 ∨ kd = 2)
  · rw [if_pos hc] at h; exact absurd rfl h
  · rw [if_neg hc]

set_option maxRecDepth 100000 in
set_option maxHeartbeats 8000000 in
theorem checkStore_any (l : List Obj) (v : Value) (S : Nat → Prop) (w : World) (h : StoreV S w v l) :
    Calls Try.prog 47 #[v] w fun e w' => e = .returned (.int .i64 (checkStore l)) ∧ Below w.heap.size w w' := by
  have h' := h
  obtain ⟨a, n, cap, la, ln, lc, HN, rfl, h1, h2, h3, h4, h5⟩ := h.open
  clear h
  obtain ⟨R, hR, hR1, _⟩ := cls_plain w
  have hRb := hR.below
  have hRn := hR.next
  have hRg := cls_grown hR
  by_cases h40 : 40 < n
  · have He := Lib.hid (checkStore_many (l := l) (by rw [← HN.out.1]; exact h40))
    go_enter Try.func47, Try.ntmps47
    go_wp2_with fail
    go_ret
    exact ⟨ret_int He.out.symm, hRb _ hR1⟩
  · have hl40 : l.length ≤ 40 := by rw [← HN.out.1]; omega
    have Hbad := Lib.hid (fun i e (h0 : scan (objErr l) i = 0) (hi : i < n) (he : objErr l i = e) (hne : e ≠ 0) => checkStore_bad hl40 h0 (by rw [← HN.out.1]; exact hi) he hne)
    have Hok := Lib.hid (fun (h0 : scan (objErr l) n = 0) => checkStore_ok hl40 (by rw [← HN.out.1]; exact h0))
    clear hl40
    go_enter Try.func47, Try.ntmps47
    go_wp2_with fail
    go_loopw [3] (fun i wr => ∃ k : Nat, k ≤ n ∧ i = .int .i64 k ∧ Hid (scan (objErr l) k = 0) ∧ In R wr) (fun i _ => n - (intOf i).toNat)
    case atStart => exact ⟨0, by omega, rfl, rfl, hR1⟩
    case round =>
      obtain ⟨k, hk, rfl, Hs, hRw⟩ := hrel
      clear hR1
      obtain ⟨wo, rfl⟩ : ∃ wo : World, wo = wr := ⟨_, rfl⟩
      by_cases hlt : k < n
      · obtain ⟨b, off, rfl, hb, k0, k1, k2, k3⟩ := h4 (by omega)
        have x0 := k0 k wo hlt (hRb _ hRw)
        have x1 := k1 k wo hlt (hRb _ hRw)
        have x2 := k2 k wo hlt (hRb _ hRw)
        have x3 := k3 k wo hlt (hRb _ hRw)
        have ho := h5 k hlt
        have Hk4 := Lib.hid (scan_kind (l := l) (n := k) (by rw [← HN.out.1]; omega) Hs.out)
        have Hk0 := Lib.hid k0
        have Hln := Lib.hid (HN.out.2 k)
        clear h4 h5 k0 k1 k2 k3
        generalize la k = a2 at *
        generalize ln k = n2 at *
        generalize lc k = c2 at *
        obtain ⟨Q, hQ, hQ1, y0, y1, y2, y3⟩ := cls_box4 wo (.int .i64 (obj l k).id) (.int .i64 (obj l k).kind) (.slice a2 n2 c2) (.string (obj l k).text) 24
        have hQb : ∀ x, In Q x → Below w.heap.size w x := fun x hx => below_next (hRb _ hRw) (hQ.below x hx)
        have hQn := hQ.next
        by_cases hz : checkObj (obj l k) = 0
        · have hz' : (checkObj (obj l k) != 0) = false := by simpa using hz
          have Hz := Lib.hid hz; clear hz
          have HT := Lib.hid (fun x (hx : In Q x) => (h'.take (i := k) (by rw [← HN.out.1]; omega)).below (hQb x hx))
          obtain ⟨a3, n3, c3, HN3, hv3, g1, g2, g3, g4⟩ := ho.1.open
          cases hv3
          have HL := Lib.hid HN3.out; clear HN3 Hln
          go_wp2_with (go_at_call 21; refine (checkObject_any (obj l k) _ S _ (ho.below (hQb _ hQ1))).mono ?_; rintro e w2 ⟨rfl, hb2⟩; have hQ2 := hQn _ _ hQ1 hb2; clear x0 x1 x2 x3)
          clear hb2 hz'
          by_cases hst : 0 < k ∧ (obj l k).id ≤ (obj l (k - 1)).id
          · obtain ⟨hk0, hle⟩ := hst
            have hkm : ∀ x, In Q x → x.cell? ⟨b, off + (k - 1) * 4, none⟩ = some (.int .i64 (obj l (k - 1)).id) := fun x hx => Hk0.out (k - 1) x (by omega) (hQb x hx)
            have hi3 : (0 : Int) ≤ (k : Int) - 1 := by omega
            have hi4 : (1 : Int) ≤ (k : Int) := by omega
            have hi5 : (k : Int) - 1 < (n : Int) := by omega
            have hi6 : (0 : Int) < (k : Int) := by omega
            have hwr2 := wrap_in (n := (k : Int) - 1) (by omega)
            have htn : ((k : Int) - 1).toNat = k - 1 := by omega
            have hQd := hQ.drewN
            go_quiet (fail)
            go_wp2
            go_ret
            exact ⟨ret_int (Hbad.out k _ Hs.out hlt (objErr_state Hz.out hk0 hle) (by decide)).symm, hQb _ (hQd _ _ hQ2)⟩
          have Hst := Lib.hid (fun (h0 : 0 < k) => show (obj l (k - 1)).id < (obj l k).id from Int.not_le.1 (fun hle => hst ⟨h0, hle⟩))
          clear hst
          have hQd := hQ.drewN
          go_cut [38] (fun s38 wx => s38 = .bool false ∧ In Q wx)
          case first =>
            by_cases hk0 : 0 < k
            · have hkm : ∀ x, In Q x → x.cell? ⟨b, off + (k - 1) * 4, none⟩ = some (.int .i64 (obj l (k - 1)).id) := fun x hx => Hk0.out (k - 1) x (by omega) (hQb x hx)
              have hi3 : (0 : Int) ≤ (k : Int) - 1 := by omega
              have hi4 : (1 : Int) ≤ (k : Int) := by omega
              have hi5 : (k : Int) - 1 < (n : Int) := by omega
              have hi6 : (0 : Int) < (k : Int) := by omega
              have hwr2 := wrap_in (n := (k : Int) - 1) (by omega)
              have htn : ((k : Int) - 1).toNat = k - 1 := by omega
              have hlts := Hst.out hk0
              have hlts' : decide ((obj l k).id ≤ (obj l (k - 1)).id) = false := by simp; exact hlts
              go_quiet (fail)
              go_wp2_with fail
              go_meet
              exact ⟨rfl, hQd _ _ hQ2⟩
            · have hd : decide ((0 : Int) < (k : Int)) = false := by simp; omega
              go_quiet (fail)
              go_wp2_with fail
              go_meet
              exact ⟨rfl, hQd _ _ hQ2⟩
          case rest =>
            obtain ⟨rfl, hQ3⟩ := hcut
            clear hQ1 hQ2
            go_wp2_with fail
            go_loopw [6] (fun i wr => ∃ m : Nat, m ≤ n2 ∧ i = .int .i64 m ∧ Hid (scan (fun j => linkErr (obj l k) j (kindOf (l.take k) (nth (obj l k).links j))) m = 0) ∧ In Q wr) (fun i _ => n2 - (intOf i).toNat)
            case atStart => exact ⟨0, by omega, rfl, rfl, hQ3⟩
            case round =>
              obtain ⟨m, hm, rfl, Hm, hQw⟩ := hrel
              clear hQ3
              by_cases hmlt : m < n2
              · obtain ⟨b', off', rfl, hb', hcell⟩ := g4 (by omega)
                have hcm : ∀ x, In Q x → x.cell? ⟨b', off' + m, none⟩ = some (.int .i64 (nth (obj l k).links m)) := fun x hx => hcell m x hmlt (hQb x hx)
                clear hcell g4
                have hi1 : (0 : Int) ≤ (k : Int) := by omega
                have hi2 : (k : Int) ≤ (n : Int) := by omega
                have hi3 : (k : Int) ≤ (cap : Int) := by omega
                have hi4 : (0 : Int) ≤ (m : Int) := by omega
                have hi5 : (m : Int) < (n2 : Int) := by omega
                have HKd := Lib.hid (fun x (hx : In Q x) => kindOf_any (l.take k) _ S (nth (obj l k).links m) x (HT.out x hx))
                have Hkd4 := Lib.hid (Hk4.out (nth (obj l k).links m))
                have Hok2 := Lib.hid (links_kind Hz.out (by rw [← HL.out]; omega))
                have Hnx := Lib.hid (fun (h0 : linkErr (obj l k) m (kindOf (l.take k) (nth (obj l k).links m)) = 0) => scan_next Hm.out h0)
                have Her := Lib.hid (fun e (h0 : linkErr (obj l k) m (kindOf (l.take k) (nth (obj l k).links m)) = e) (hne : e ≠ 0) => Hbad.out k _ Hs.out hlt (linkScan Hz.out Hst.out (by rw [← HL.out]; exact hmlt) Hm.out h0 hne) hne)
                generalize kindOf (l.take k) (nth (obj l k).links m) = kd at *
                go_wp2_with fail
                go_quiet ((go_at_call 40; exact quiet_same (HKd.out _ (hQd _ _ hQw))))
                have hQ4 := hQd _ nq hQw
                clear hi1 hi2 hi3 hi4 hi5 hcm HKd
                generalize wr.drewN nq = w4 at *
                cases hz0 : (kd == 0)
                · have hkd : kd ≠ 0 := by simpa using hz0
                  go_upto_region 18 with fail
                  go_cut [89] (fun s89 wx => s89 = .bool (decide (linkErr (obj l k) m kd ≠ 0)) ∧ wx = w4)
                  case first =>
                    have Hv := Lib.hid (linkErr_tests (obj l k) m kd Hok2.out (by have := Hkd4.out; omega))
                    have hy1 := y1 _ hQ4
                    cases hm0 : ((m : Int) == 0) <;> cases hm1 : decide (0 < m) <;> cases hq2 : ((obj l k).kind == 2) <;> cases hq3 : ((obj l k).kind == 3) <;> cases hk3 : (kd == 3) <;> cases hk2 : (kd == 2)
                    all_goals
                      have hk3' : (kd != 3) = !(kd == 3) := rfl
                      have hk2' : (kd != 2) = !(kd == 2) := rfl
                      rw [hk3] at hk3'
                      rw [hk2] at hk2'
                      simp only [Bool.not_true, Bool.not_false] at hk3' hk2'
                      go_wp2_with fail
                      go_meet
                      exact ⟨by rw [Hv.out, hm0, hm1, hq2, hq3, hk3, hk3', hk2']; rfl, rfl⟩
                  case rest =>
                    obtain ⟨rfl, rfl⟩ := hcut
                    by_cases hle : linkErr (obj l k) m kd = 0
                    · have hd : decide (linkErr (obj l k) m kd ≠ 0) = false := by simp [hle]
                      have HE := Lib.hid (Hnx.out hle)
                      clear hle
                      rw [hd]
                      go_wp2
                      go_roundw
                      case rel => exact ⟨m + 1, by omega, by go_num, HE.out, hQ4⟩
                      case measure => simp [intOf]; omega
                    · have hd : decide (linkErr (obj l k) m kd ≠ 0) = true := by simp [hle]
                      have HE := Lib.hid (Her.out 7 (linkErr_val hkd hle) (by decide))
                      clear hle
                      rw [hd]
                      go_wp2
                      go_ret
                      exact ⟨ret_int HE.out.symm, hQb _ hQ4⟩
                · have hkd : kd = 0 := by simpa using hz0
                  have Hle := Lib.hid (Her.out 5 (by rw [hkd]; rfl) (by decide)); clear hkd
                  go_wp2
                  go_ret
                  exact ⟨ret_int Hle.out.symm, hQb _ hQ4⟩
              · obtain rfl : m = n2 := by omega
                have Hm2 := Lib.hid (scan_next Hs.out ((objErr_links Hz.out Hst.out).trans (by rw [← HL.out]; exact Hm.out)))
                go_wp2
                go_roundw
                case rel => exact ⟨k + 1, by omega, by go_num, Hm2.out, hR.next _ _ hRw (hQ.below _ hQw)⟩
                case measure => simp [intOf]; omega
        · have hz' : (checkObj (obj l k) != 0) = true := by simpa using hz
          have Hz := Lib.hid hz
          clear hz
          go_wp2_with (go_at_call 21; refine (checkObject_any (obj l k) _ S _ (ho.below (hQb _ hQ1))).mono ?_; rintro e w2 ⟨rfl, hb2⟩; have hQ2 := hQn _ _ hQ1 hb2; clear x0 x1 x2 x3)
          go_ret
          exact ⟨ret_int (Hbad.out k _ Hs.out hlt (objErr_bad Hz.out) Hz.out).symm, hQb _ hQ2⟩
      · obtain rfl : k = n := by omega
        have He := Lib.hid (Hok.out Hs.out)
        go_wp2_with fail
        go_ret
        exact ⟨ret_int He.out.symm, hRb _ hRw⟩
end Go.Proofs.Ytcppgkhkijejoaa
