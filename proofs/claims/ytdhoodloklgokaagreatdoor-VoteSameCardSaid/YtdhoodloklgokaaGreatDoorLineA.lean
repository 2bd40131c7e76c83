
/- LineA: walks of Digits and TextOf of the reference. -/
import Derived.Test.YtdhoodloklgokaaGreatDoorUpdL
import Derived.Test.YtdhoodloklgokaaGreatDoorUpdE
namespace Go.Proofs.YtdhoodloklgokaaGreatDoor
open Go.RowKit
set_option linter.unusedVariables false
set_option linter.unusedSimpArgs false

theorem dec_small {n : Int} (h0 : 0 ≤ n) (h : n < 10) : decB n = ⟨#[UInt8.ofNat (48 + n.toNat)]⟩ := by
  unfold decB; rw [Lib.decDigits, dif_pos (by omega)]
theorem dec_big {n : Int} (h : 10 ≤ n) : decB n = decB (n / 10) ++ decB (n % 10) := by
  apply ba_ext
  unfold decB
  conv => lhs; rw [Lib.decDigits, dif_neg (by omega)]
  have e1 : (n / 10).toNat = n.toNat / 10 := by omega
  have e2 : (n % 10).toNat = n.toNat % 10 := by omega
  rw [e1, e2]
  conv => rhs; rw [show Lib.decDigits (n.toNat % 10) = [UInt8.ofNat (48 + n.toNat % 10)] by rw [Lib.decDigits, dif_pos (by omega)]]
  simp

theorem dec_size {n : Int} (h0 : 0 ≤ n) (h : n < 1000) : (decB n).size ≤ 12 := by
  have h1 : ∀ n : Int, 0 ≤ n → n < 10 → (decB n).size = 1 := fun n h0 h => by rw [dec_small h0 h]; rfl
  have h2 : ∀ n : Int, 0 ≤ n → n < 100 → (decB n).size ≤ 2 := fun n h0 h => by
    by_cases h3 : n < 10
    · rw [h1 n h0 h3]; omega
    · rw [dec_big (by omega), ByteArray.size_append, h1 (n / 10) (by omega) (by omega), h1 (n % 10) (by omega) (by omega)]; omega
  by_cases h3 : n < 100
  · have := h2 n h0 h3; omega
  · rw [dec_big (by omega), ByteArray.size_append, h1 (n % 10) (by omega) (by omega)]
    have := h2 (n / 10) (by omega) (by omega); omega

set_option maxRecDepth 100000 in
theorem digits1_any (n : Int) (h0 : 0 ≤ n) (h : n < 10) (w : World) : Calls Tryz.prog 123 #[.int .i64 n] w fun e w' => e = .returned (.string (decB n)) ∧ w = w' := by
  have hd := dec_small h0 h
  have h10 : n = 0 ∨ n = 1 ∨ n = 2 ∨ n = 3 ∨ n = 4 ∨ n = 5 ∨ n = 6 ∨ n = 7 ∨ n = 8 ∨ n = 9 := by omega
  have HD := Lib.hid hd
  clear hd
  rcases h10 with rfl | rfl | rfl | rfl | rfl | rfl | rfl | rfl | rfl | rfl
  all_goals
    clear h0 h
    go_enter Tryz.func123, Tryz.ntmps123
    go_wp2_with fail
    go_ret
    exact ⟨by rw [HD.out]; rfl, rfl⟩
set_option maxRecDepth 100000 in
theorem digits2_any (n : Int) (h0 : 10 ≤ n) (h : n < 100) (w : World) : Calls Tryz.prog 123 #[.int .i64 n] w fun e w' => e = .returned (.string (decB n)) ∧ w = w' := by
  have HD := Lib.hid (dec_big h0)
  have hd : decide (n < 10) = false := decide_eq_false (by omega)
  have hn : 0 ≤ n := by omega
  have h1 := Lib.hid (digits1_any (n / 10) (by omega) (by omega) w)
  have h2 := Lib.hid (digits1_any (n % 10) (by omega) (by omega) w)
  have hs1 := dec_size (n := n / 10) (by omega) (by omega)
  have hs2 := dec_size (n := n % 10) (by omega) (by omega)
  have hs3 : ¬ 9223372036854775807 < (decB (n / 10)).size + (decB (n % 10)).size := by omega
  go_enter Tryz.func123, Tryz.ntmps123
  go_wp2_with fail
  refine h1.out.mono ?_
  rintro e w' ⟨rfl, rfl⟩
  go_wp2_with fail
  refine h2.out.mono ?_
  rintro e w' ⟨rfl, rfl⟩
  go_wp2_with fail
  go_ret
  exact ⟨by rw [HD.out]; rfl, rfl⟩
set_option maxRecDepth 100000 in
theorem digits3_any (n : Int) (h0 : 100 ≤ n) (h : n < 1000) (w : World) : Calls Tryz.prog 123 #[.int .i64 n] w fun e w' => e = .returned (.string (decB n)) ∧ w = w' := by
  have HD := Lib.hid (dec_big (n := n) (by omega))
  have hd : decide (n < 10) = false := decide_eq_false (by omega)
  have hn : 0 ≤ n := by omega
  have h1 := Lib.hid (digits2_any (n / 10) (by omega) (by omega) w)
  have h2 := Lib.hid (digits1_any (n % 10) (by omega) (by omega) w)
  have hs1 := dec_size (n := n / 10) (by omega) (by omega)
  have hs2 := dec_size (n := n % 10) (by omega) (by omega)
  have hs3 : ¬ 9223372036854775807 < (decB (n / 10)).size + (decB (n % 10)).size := by omega
  go_enter Tryz.func123, Tryz.ntmps123
  go_wp2_with fail
  refine h1.out.mono ?_
  rintro e w' ⟨rfl, rfl⟩
  go_wp2_with fail
  refine h2.out.mono ?_
  rintro e w' ⟨rfl, rfl⟩
  go_wp2_with fail
  go_ret
  exact ⟨by rw [HD.out]; rfl, rfl⟩
theorem digits_any (n : Int) (h0 : 0 ≤ n) (h : n < 1000) (w : World) : Calls Tryz.prog 123 #[.int .i64 n] w fun e w' => e = .returned (.string (decB n)) ∧ w = w' := by
  by_cases h1 : n < 10
  · exact digits1_any n h0 h1 w
  · by_cases h2 : n < 100
    · exact digits2_any n (by omega) h2 w
    · exact digits3_any n (by omega) h w

theorem name_size {s : ByteArray} (h : nameErr s = 0) : s.size ≤ 12 := by
  unfold nameErr at h
  split at h
  · cases h
  · omega
theorem textOne_size {u : Mv} (hn : u.name.size ≤ 12) (h1 : 0 ≤ u.old ∧ u.old ≤ 99) (h2 : 0 ≤ u.new ∧ u.new ≤ 99) : (textOne u).size ≤ 39 := by
  unfold textOne spB semiB
  have e1 := dec_size h1.1 (by omega : u.old < 1000)
  have e2 := dec_size h2.1 (by omega : u.new < 1000)
  simp only [ByteArray.size_append]
  show _ + 1 + _ + 1 + _ + 1 ≤ 39
  omega
theorem text_size {l : List Mv} (h : MvsOk l) : ∀ k, k ≤ l.length → (textTo l k).1.size ≤ 39 * k
  | 0, _ => by show ByteArray.size ByteArray.empty ≤ _; simp
  | k + 1, hk => by
    obtain ⟨a, ha, _, e⟩ := pick_there h (n := k) (by omega)
    have ih := text_size h k (by omega)
    have hm := mv_mem ha
    have := textOne_size (name_size (h.name _ hm)) (h.old _ hm) (h.new _ hm)
    rw [e]
    show (_ ++ _ : ByteArray).size ≤ _
    rw [ByteArray.size_append]; omega

set_option maxRecDepth 100000 in
set_option maxHeartbeats 4000000 in
theorem textOf_any (l : List Mv) (v : Value) (S : Nat → Prop) (w : World) (h : MvsV S w v l) (hok : MvsOk l) :
    Calls Tryz.prog 124 #[v] w fun e w' => e = .returned (.string (textL l)) ∧ Below w.heap.size w w' := by
  obtain ⟨a, n, cap, HN, rfl, h1, h2, h3, h4⟩ := h.open
  have Hn := Lib.hid HN.out
  have HT := Lib.hid (show textL l = (textTo l n).1 by rw [Hn.out]; rfl)
  have hP : ∀ k, k < n → ∃ a : Nat, a < n ∧ atTo l (textTo l k).2 n = (a : Int) ∧ textTo l (k + 1) = ((textTo l k).1 ++ textOne (mv l a), (mv l a).name) := fun k hk => by
    rw [Hn.out] at hk ⊢; exact pick_there hok hk
  have HP := Lib.hid hP
  have HNu := Lib.hid (fun k (hk : k < n) => show (0 ≤ (mv l k).old ∧ (mv l k).old ≤ 99) ∧ (0 ≤ (mv l k).new ∧ (mv l k).new ≤ 99) by
    rw [Hn.out] at hk; exact ⟨hok.old _ (mv_mem hk), hok.new _ (mv_mem hk)⟩)
  have hn4 : n ≤ 4 := by rw [Hn.out]; exact hok.many
  have HS := Lib.hid (fun s k => atTo_spec l s k)
  have HZs := Lib.hid (fun k (hk : k ≤ n) => text_size hok k (by rw [← Hn.out]; exact hk))
  have HZn := Lib.hid (fun k (hk : k < n) => name_size (hok.name _ (mv_mem (l := l) (i := k) (by rw [← Hn.out]; exact hk))))
  have HA := Lib.hid (fun s k => show atTo l s (k + 1) = if strLt s (mv l k).name = true ∧ (atTo l s k < 0 ∨ strLt (mv l k).name (mv l (atTo l s k).toNat).name = true) then (k : Int) else atTo l s k from rfl)
  clear h hok hP HN
  obtain ⟨R, hR, hR1, _⟩ := cls_plain w
  have hRb := hR.below
  have hRd := hR.drewN
  have hRg := cls_grown hR
  go_enter Tryz.func124, Tryz.ntmps124
  go_wp2_with fail
  go_loopw [3, 4, 5] (fun s3 s4 i wr => ∃ (k : Nat) (s t : ByteArray), k ≤ n ∧ i = .int .i64 k ∧ s3 = .string s ∧ s4 = .string t ∧ Hid (textTo l k = (s, t)) ∧ In R wr) (fun _ _ i _ => n - (intOf i).toNat)
  case atStart => exact ⟨0, _, _, by omega, rfl, rfl, rfl, rfl, hR1⟩
  case round =>
    obtain ⟨k, s, t, hk, rfl, rfl, rfl, Hst, hRw⟩ := hrel
    clear hR1
    by_cases hlt : k < n
    case neg =>
      obtain rfl : k = n := by omega
      have HB := Lib.hid (hRb _ hRw)
      have HE := Lib.hid (show textL l = s by rw [HT.out, Hst.out])
      go_wp2_with fail
      go_ret
      exact ⟨by rw [HE.out]; rfl, HB.out⟩
    case pos =>
      obtain ⟨pk, hpk, hat, hnext⟩ := HP.out k hlt
      rw [Hst.out] at hat hnext
      have Hat := Lib.hid hat
      have Hnext := Lib.hid hnext
      clear hat hnext
      obtain ⟨b, off, rfl, hb, k0, k1, k2⟩ := h4 (by omega)
      go_wp2_with fail
      go_loopw [6, 7] (fun a i wx => ∃ (j : Nat) (z : Int), j ≤ n ∧ i = .int .i64 j ∧ a = .int .i64 z ∧ Hid (z = atTo l t j) ∧ In R wx) (fun _ i _ => n - (intOf i).toNat)
      case atStart => exact ⟨0, -1, by omega, rfl, rfl, rfl, hRw⟩
      case round =>
        obtain ⟨j, z, hj, rfl, rfl, Hz, hRx⟩ := hrel
        clear hRw
        by_cases hjt : j < n
        case pos =>
          have x0 := fun x (hx : In R x) => k0 j x hjt (hRb _ hx)
          have hi1 : (0 : Int) ≤ (j : Int) := by omega
          have hi2 : (j : Int) < (n : Int) := by omega
          have Haj := Lib.hid (HA.out t j)
          rw [← Hz.out] at Haj
          have hsp := HS.out t j
          rw [← Hz.out] at hsp
          have Hs1 := Lib.hid (show strLt t (mv l j).name = Op.bytesLess t.toList (mv l j).name.toList from rfl)
          cases q1 : Op.bytesLess t.toList (mv l j).name.toList
          · have HZ := Lib.hid (show z = atTo l t (j + 1) by rw [Haj.out, if_neg (by rw [Hs1.out, q1]; simp)])
            clear hsp
            cases r1 : Op.bytesLess (mv l j).name.toList t.toList
            case' false => have r2 : (mv l j).name.toList = t.toList := by rw [strLt_tri (a := (mv l j).name) (b := t) r1 q1]
            all_goals
              go_wp2_with fail
              go_quiet (fail)
              have hR2 := hRd _ nq hRx
              clear hRx k0 k1 k2 x0
              generalize wr.drewN nq = w2 at *
              go_wp2_with fail
              go_roundw
              case rel => exact ⟨j + 1, z, by omega, by go_num, rfl, HZ.out, hR2⟩
              case measure => simp [intOf]; omega
          · have r1 : Op.bytesLess (mv l j).name.toList t.toList = false := strLt_asymm (a := t) (b := (mv l j).name) q1
            have r2 : ¬ (mv l j).name.toList = t.toList := fun e => by
              rw [e, show Op.bytesLess t.toList t.toList = false from strLt_irrefl t] at q1; cases q1
            have r3 : ((mv l j).name.toList == t.toList) = false := by simpa using r2
            rcases hsp with ⟨e, _⟩ | ⟨a, ha, e, _⟩
            · subst e
              have HZ := Lib.hid (show (j : Int) = atTo l t (j + 1) by rw [Haj.out, if_pos ⟨by rw [Hs1.out, q1], .inl (by omega)⟩])
              go_wp2_with fail
              refine wp_region_quiet_below (by kernel_rfl) (by kernel_rfl) ?_
              repeat (first | go_big_quiet_skip | quiet_step (fail))
              refine wpQuiet_nil ?_
              intro _ hw'
              obtain ⟨⟨dq, osq⟩, hw''⟩ := hw'
              subst hw''
              have hR2 := hRg _ dq osq hRx
              clear hRx k0 k1 k2 x0
              generalize Go.Sort.grow (redrawn _ dq) osq = w2 at *
              go_wp2_with fail
              go_roundw
              case rel => exact ⟨j + 1, j, by omega, by go_num, rfl, HZ.out, hR2⟩
              case measure => simp [intOf]; omega
            · subst e
              have z0 := fun x (hx : In R x) => k0 a x (by omega) (hRb _ hx)
              have hz1 : (0 : Int) ≤ (a : Int) := by omega
              have hz2 : (a : Int) < (n : Int) := by omega
              have hz3 : decide ((a : Int) < 0) = false := decide_eq_false (by omega)
              have Hs2 := Lib.hid (show strLt (mv l j).name (mv l a).name = Op.bytesLess (mv l j).name.toList (mv l a).name.toList from rfl)
              cases q2 : Op.bytesLess (mv l j).name.toList (mv l a).name.toList
              · have HZ := Lib.hid (show (a : Int) = atTo l t (j + 1) by rw [Haj.out, if_neg (by rw [Int.toNat_natCast, Hs2.out, q2]; intro h; rcases h.2 with h | h; omega; cases h)])
                go_wp2_with fail
                refine wp_region_quiet_below (by kernel_rfl) (by kernel_rfl) ?_
                repeat (first | go_big_quiet_skip | quiet_step (fail))
                refine wpQuiet_nil ?_
                intro _ hw'
                obtain ⟨⟨dq, osq⟩, hw''⟩ := hw'
                subst hw''
                have hR2 := hRg _ dq osq hRx
                clear hRx k0 k1 k2 x0 z0
                generalize Go.Sort.grow (redrawn _ dq) osq = w2 at *
                go_wp2_with fail
                go_roundw
                case rel => exact ⟨j + 1, a, by omega, by go_num, rfl, HZ.out, hR2⟩
                case measure => simp [intOf]; omega
              · have HZ := Lib.hid (show (j : Int) = atTo l t (j + 1) by rw [Haj.out, if_pos ⟨by rw [Hs1.out, q1], .inr (by rw [Int.toNat_natCast, Hs2.out, q2])⟩])
                go_wp2_with fail
                refine wp_region_quiet_below (by kernel_rfl) (by kernel_rfl) ?_
                repeat (first | go_big_quiet_skip | quiet_step (fail))
                refine wpQuiet_nil ?_
                intro _ hw'
                obtain ⟨⟨dq, osq⟩, hw''⟩ := hw'
                subst hw''
                have hR2 := hRg _ dq osq hRx
                clear hRx k0 k1 k2 x0 z0
                generalize Go.Sort.grow (redrawn _ dq) osq = w2 at *
                go_wp2_with fail
                go_roundw
                case rel => exact ⟨j + 1, j, by omega, by go_num, rfl, HZ.out, hR2⟩
                case measure => simp [intOf]; omega
        case neg =>
          obtain rfl : j = n := by omega
          have ez := Hz.out.trans Hat.out
          subst ez
          have x0 := fun x (hx : In R x) => k0 pk x hpk (hRb _ hx)
          have x1 := fun x (hx : In R x) => k1 pk x hpk (hRb _ hx)
          have x2 := fun x (hx : In R x) => k2 pk x hpk (hRb _ hx)
          have hi1 : (0 : Int) ≤ (pk : Int) := by omega
          have hi2 : (pk : Int) < (j : Int) := by omega
          have hnu := HNu.out pk hpk
          have HD1 := Lib.hid (fun x => digits_any (mv l pk).old hnu.1.1 (by omega) x)
          have HD2 := Lib.hid (fun x => digits_any (mv l pk).new hnu.2.1 (by omega) x)
          have x00 := x0 _ hRx
          have hs0 := HZs.out k (by omega)
          rw [Hst.out] at hs0
          have hs1 := HZn.out pk hpk
          have hs2 := dec_size hnu.1.1 (by omega : (mv l pk).old < 1000)
          have hs3 := dec_size hnu.2.1 (by omega : (mv l pk).new < 1000)
          simp only at hs0
          have n1 : ¬ 9223372036854775807 < (mv l pk).name.size + 1 := by omega
          have n2 : ¬ 9223372036854775807 < (mv l pk).name.size + 1 + (decB (mv l pk).old).size := by omega
          have n3 : ¬ 9223372036854775807 < (mv l pk).name.size + 1 + (decB (mv l pk).old).size + 1 := by omega
          have n4 : ¬ 9223372036854775807 < (mv l pk).name.size + 1 + (decB (mv l pk).old).size + 1 + (decB (mv l pk).new).size := by omega
          have n5 : ¬ 9223372036854775807 < (mv l pk).name.size + 1 + (decB (mv l pk).old).size + 1 + (decB (mv l pk).new).size + 1 := by omega
          have n6 : ¬ 9223372036854775807 < s.size + ((mv l pk).name.size + 1 + (decB (mv l pk).old).size + 1 + (decB (mv l pk).new).size + 1) := by omega
          clear hs0 hs1 hs2 hs3
          clear hnu k0 k1 k2 h4
          go_wp2_with fail
          go_quiet ((first | (go_at_call 123; with_reducible exact quiet_same (HD1.out _)) | (go_at_call 123; with_reducible exact quiet_same (HD2.out _))))
          have hR2 := hRd _ nq hRx
          clear hRx x0 x1 x2 x00
          generalize wr.drewN nq = w2 at *
          have HF := Lib.hid (show textTo l (k + 1) = (s ++ textOne (mv l pk), (mv l pk).name) from Hnext.out)
          go_wp2_with fail
          go_roundw
          case rel => exact ⟨k + 1, _, _, by omega, by go_num, rfl, rfl, HF.out, hR2⟩
          case measure => simp [intOf]; omega
end Go.Proofs.YtdhoodloklgokaaGreatDoor
