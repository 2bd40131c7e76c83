/- Walks: what is wrong with refs: the reference's CheckRight; Check, CheckRefs, Get. -/
import Derived.Test.YtcppgkhkijejoaaRefs4
import Derived.Test.YtcppgkhkijejoaaStor3
namespace Go.Proofs.Ytcppgkhkijejoaa
open Go.RowKit
set_option linter.unusedVariables false
set_option linter.unusedSimpArgs false

set_option maxHeartbeats 400000 in
theorem isIn_any (x y : ByteArray) (w : World) (hx : x.size ≤ 140737488351232) (hy : y.size ≤ 140737488351232) :
    Calls Try.prog 85 #[.string x, .string y] w fun e w' => e = .returned (.bool (inPlace x y)) ∧ w = w' := by
  have Hd := Lib.hid (show inPlace x y = (decide (x.size < y.size) && ((y.extract 0 x.size).toList == x.toList) && (byt y x.size == 47)) from rfl)
  by_cases h : x.size < y.size
  · have hix := fun w => index_str (P := Try.prog) 9 Try.underlying9 (s := y) x.size h w
    have hd : decide (x.size < y.size) = true := by simpa using h
    have HD := Lib.hid hd; clear hd
    cases h1 : ((y.extract 0 x.size).toList == x.toList) <;> cases h2 : (byt y x.size == 47)
    all_goals
      go_enter Try.func85, Try.ntmps85
      go_wp2
      go_ret
      exact ⟨by rw [Hd.out, HD.out, h1, h2]; rfl, rfl⟩
  · have hd : decide (x.size < y.size) = false := by simpa using h
    have HD := Lib.hid hd; clear hd
    go_enter Try.func85, Try.ntmps85
    go_wp2
    go_ret
    exact ⟨by rw [Hd.out, HD.out]; rfl, rfl⟩

set_option maxRecDepth 100000 in
set_option maxHeartbeats 4000000 in
theorem checkRight_any (l : List Rf) (objs : List Obj) (v u : Value) (S S' : Nat → Prop) (w : World) (h : RefsV S w v l) (ho : StoreV S' w u objs) :
    Calls Try.prog 63 #[v, u] w fun e w' => e = .returned (.int .i64 (rightErr l objs)) ∧ Below w.heap.size w w' := by
  have h' := h
  obtain ⟨a, n, cap, HN, rfl, h1, h2, h3, h4, h5⟩ := h.open
  clear h
  obtain ⟨ua, uc, un, rfl⟩ : ∃ a cap n, u = .slice a n cap := let ⟨_, ⟨a, cap, hv, _⟩, _⟩ := ho; ⟨a, cap, _, hv⟩
  obtain ⟨R, hR, hR1, _⟩ := cls_plain w
  have hRb := hR.below
  have hRd := hR.drewN
  by_cases h8 : 8 < n
  · have He := Lib.hid (rightErr_many (l := l) (objs := objs) (by rw [← HN.out]; exact h8))
    go_enter Try.func63, Try.ntmps63
    go_wp2_with fail
    go_ret
    exact ⟨ret_int He.out.symm, hRb _ hR1⟩
  · have hl8 : l.length ≤ 8 := by rw [← HN.out]; omega
    have Href := Lib.hid (fun i e (h0 : scan (refErr l objs) i = 0) (hi : i < n) (he : refErr l objs i = e) (hne : e ≠ 0) => rightErr_ref hl8 h0 (by rw [← HN.out]; exact hi) he hne)
    have Hpair := Lib.hid (fun i k (h0 : scan (refErr l objs) n = 0) (hi : i < n) (hk : k < n) (he : inPlace (rf l i).name (rf l k).name = true) => rightErr_pair hl8 (by rw [← HN.out]; exact h0) (by rw [← HN.out]; exact hi) (by rw [← HN.out]; exact hk) he)
    have Hok := Lib.hid (fun (h0 : scan (refErr l objs) n = 0) (hp : ∀ i, i < n → ∀ k, k < n → inPlace (rf l i).name (rf l k).name = false) => rightErr_ok (l := l) (objs := objs) hl8 (by rw [← HN.out]; exact h0) (fun i k hi hk => hp i (by rw [HN.out]; exact hi) k (by rw [HN.out]; exact hk)))
    clear hl8
    go_enter Try.func63, Try.ntmps63
    go_wp2_with fail
    go_loopw [5] (fun i wr => ∃ k : Nat, k ≤ n ∧ i = .int .i64 k ∧ Hid (scan (refErr l objs) k = 0) ∧ In R wr) (fun i _ => n - (intOf i).toNat)
    case atStart => exact ⟨0, by omega, rfl, rfl, hR1⟩
    case round =>
      obtain ⟨k, hk, rfl, Hs, hRw⟩ := hrel
      clear hR1
      by_cases hlt : k < n
      · obtain ⟨b, off, rfl, hb, k0, k1⟩ := h4 (by omega)
        have x0 := fun x hx => k0 k x hlt (hRb x hx)
        have x1 := fun x hx => k1 k x hlt (hRb x hx)
        have hnm := (h5 k hlt).2
        have Hk0 := Lib.hid k0
        clear h4 h5 k0 k1
        have Hre := Lib.hid (show refErr l objs k = if nameErr (rf l k).name ≠ 0 then nameErr (rf l k).name else if 0 < k ∧ strLt (rf l (k - 1)).name (rf l k).name = false then 4 else commitErr objs (rf l k).id from rfl)
        generalize hne : nameErr (rf l k).name = ne at *
        have Hna := Lib.hid (fun x => by have := checkName_any (rf l k).name x hnm; rw [hne] at this; exact this)
        clear hne hnm
        have hi1 : (0 : Int) ≤ (k : Int) := by omega
        have hi2 : (k : Int) < (n : Int) := by omega
        go_wp2_with fail
        refine (Hna.out _).mono ?_
        rintro e w2 ⟨rfl, rfl⟩
        go_upto_region 7 with fail
        go_cut [43] (fun s43 wx => s43 = .bool (decide (ne = 0 ∧ 0 < k ∧ strLt (rf l (k - 1)).name (rf l k).name = false)) ∧ ∃ x, x = wx ∧ In R x)
        case first =>
          cases hz : (ne == 0)
          · have Hz := Lib.hid (show ne ≠ 0 by simpa using hz)
            go_quiet (fail)
            go_wp2_with fail
            go_meet
            exact ⟨by simp [Hz.out], _, rfl, hRd _ _ hRw⟩
          · have Hz := Lib.hid (show ne = 0 by simpa using hz)
            by_cases hk0 : 0 < k
            · have hkm : ∀ x, In R x → x.cell? ⟨b, off + (k - 1) * 2, none⟩ = some (.string (rf l (k - 1)).name) := fun x hx => Hk0.out (k - 1) x (by omega) (hRb x hx)
              have hi3 : (0 : Int) ≤ (k : Int) - 1 := by omega
              have hi4 : (1 : Int) ≤ (k : Int) := by omega
              have hi5 : (k : Int) - 1 < (n : Int) := by omega
              have hi6 : (0 : Int) < (k : Int) := by omega
              have hwr2 := wrap_in (n := (k : Int) - 1) (by omega)
              have htn : ((k : Int) - 1).toNat = k - 1 := by omega
              have Hst := Lib.hid (strLe (rf l k).name (rf l (k - 1)).name)
              have hle : ∀ (t : TypeId), binOp .leq t (.string (rf l k).name) (.string (rf l (k - 1)).name) = pure (.bool !strLt (rf l (k - 1)).name (rf l k).name) := fun t => by rw [binOp_string_leq, Hst.out]
              cases hq : strLt (rf l (k - 1)).name (rf l k).name
              all_goals
                rw [hq] at hle
                go_quiet (fail)
                go_wp2_with fail
                go_meet
                exact ⟨by rw [hq]; simp [Hz.out, hk0], _, rfl, hRd _ _ hRw⟩
            · have hd : decide ((0 : Int) < (k : Int)) = false := by simp; omega
              go_quiet (fail)
              go_wp2_with fail
              go_meet
              exact ⟨by simp [hk0], _, rfl, hRd _ _ hRw⟩
        case rest =>
          obtain ⟨rfl, w3, rfl, hQ3⟩ := hcut
          have x13 := x1 _ hQ3
          clear hRw x0 x1
          by_cases hbad : ne = 0 ∧ 0 < k ∧ strLt (rf l (k - 1)).name (rf l k).name = false
          · have hd : decide (ne = 0 ∧ 0 < k ∧ strLt (rf l (k - 1)).name (rf l k).name = false) = true := by simpa using hbad
            rw [hd]
            have HE := Lib.hid (Href.out k 4 Hs.out hlt (by rw [Hre.out, if_neg (by simp [hbad.1]), if_pos ⟨hbad.2.1, hbad.2.2⟩]) (by decide))
            clear hbad hd
            go_wp2
            go_ret
            exact ⟨ret_int HE.out.symm, hRb _ hQ3⟩
          · have hd : decide (ne = 0 ∧ 0 < k ∧ strLt (rf l (k - 1)).name (rf l k).name = false) = false := by simpa using hbad
            rw [hd]
            clear hd
            have Hbad := Lib.hid hbad; clear hbad
            cases hz : (ne == 0)
            · have hz2 : (ne != 0) = true := by show (!(ne == 0)) = true; rw [hz]; rfl
              have HE := Lib.hid (Href.out k ne Hs.out hlt (by rw [Hre.out, if_pos (by simpa using hz)]) (by simpa using hz))
              go_wp2
              go_ret
              exact ⟨ret_int HE.out.symm, hRb _ hQ3⟩
            · have HE := Lib.hid (show refErr l objs k = commitErr objs (rf l k).id by
                have hne0 : ne = 0 := by simpa using hz
                rw [Hre.out, if_neg (by simp [hne0]), if_neg (fun h => Hbad.out ⟨hne0, h.1, h.2⟩)])
              go_wp2_with fail
              refine (checkCommit_any objs _ S' _ _ (ho.below (hRb _ hQ3))).mono ?_
              rintro e w4 ⟨rfl, rfl⟩
              by_cases hce : commitErr objs (rf l k).id = 0
              · have hce' : (commitErr objs (rf l k).id != 0) = false := by simpa using hce
                have HN2 := Lib.hid (scan_next Hs.out (HE.out.trans hce))
                clear hce
                go_wp2_with fail
                go_roundw
                case rel => exact ⟨k + 1, by omega, by go_num, HN2.out, hQ3⟩
                case measure => simp [intOf]; omega
              · have hce' : (commitErr objs (rf l k).id != 0) = true := by simpa using hce
                have HN2 := Lib.hid (Href.out k _ Hs.out hlt HE.out hce)
                clear hce
                go_wp2_with fail
                go_ret
                exact ⟨ret_int HN2.out.symm, hRb _ hQ3⟩
      · obtain rfl : k = n := by omega
        go_wp2_with fail
        go_loopw [7] (fun i wr => ∃ m : Nat, m ≤ k ∧ i = .int .i64 m ∧ Hid (∀ i, i < m → ∀ j, j < k → inPlace (rf l i).name (rf l j).name = false) ∧ In R wr) (fun i _ => k - (intOf i).toNat)
        case atStart => exact ⟨0, by omega, rfl, fun i hi => absurd hi (by omega), hRw⟩
        case round =>
          obtain ⟨m, hm, rfl, Hm, hRv⟩ := hrel
          clear hRw
          obtain ⟨wo, rfl⟩ : ∃ wo : World, wo = wr := ⟨_, rfl⟩
          by_cases hlt2 : m < k
          · go_wp2_with fail
            go_loopw [8] (fun i wr => ∃ j : Nat, j ≤ k ∧ i = .int .i64 j ∧ Hid (∀ i, i < j → inPlace (rf l m).name (rf l i).name = false) ∧ In R wr) (fun i _ => k - (intOf i).toNat)
            case atStart => exact ⟨0, by omega, rfl, fun i hi => absurd hi (by omega), hRv⟩
            case round =>
              obtain ⟨j, hj, rfl, Hj, hRu⟩ := hrel
              clear hRv
              by_cases hlt3 : j < k
              · obtain ⟨b, off, rfl, hb, k0, k1⟩ := h4 (by omega)
                have x0 := fun x hx => k0 m x hlt2 (hRb x hx)
                have y0 := fun x hx => k0 j x hlt3 (hRb x hx)
                have Hin := Lib.hid (fun x => isIn_any (rf l m).name (rf l j).name x (h5 m hlt2).2 (h5 j hlt3).2)
                clear h4 h5 k0 k1
                have hi1 : (0 : Int) ≤ (m : Int) := by omega
                have hi2 : (m : Int) < (k : Int) := by omega
                have hi3 : (0 : Int) ≤ (j : Int) := by omega
                have hi4 : (j : Int) < (k : Int) := by omega
                cases hq : inPlace (rf l m).name (rf l j).name
                · have He := Lib.hid hq
                  rw [hq] at Hin
                  go_wp2_with fail
                  go_quiet ((go_at_call 85; exact quiet_same (Hin.out _)))
                  have hRu2 := hRd _ nq hRu
                  go_wp2_with fail
                  go_roundw
                  case rel => exact ⟨j + 1, by omega, by go_num, all_next Hj.out He.out, hRu2⟩
                  case measure => simp [intOf]; omega
                · have He := Lib.hid (Hpair.out m j Hs.out hlt2 hlt3 hq)
                  rw [hq] at Hin
                  go_wp2_with fail
                  go_quiet ((go_at_call 85; exact quiet_same (Hin.out _)))
                  have hRu2 := hRd _ nq hRu
                  go_wp2_with fail
                  go_ret
                  exact ⟨ret_int He.out.symm, hRb _ hRu2⟩
              · obtain rfl : j = k := by omega
                have HM := Lib.hid (all_next Hm.out Hj.out)
                go_wp2_with fail
                go_roundw
                case rel => exact ⟨m + 1, by omega, by go_num, HM.out, hRu⟩
                case measure => simp [intOf]; omega
          · obtain rfl : m = k := by omega
            have HE := Lib.hid (Hok.out Hs.out Hm.out)
            go_wp2_with fail
            go_ret
            exact ⟨ret_int HE.out.symm, hRb _ hRv⟩

set_option maxHeartbeats 400000 in
theorem refsCheck_any (l : List Rf) (objs : List Obj) (v u : Value) (S S' : Nat → Prop) (w : World) (h : RefsV S w v l) (ho : StoreV S' w u objs) :
    Calls Try.prog 30 #[v, u] w fun e w' => e = .returned (.int .i64 (checkRefs l objs)) ∧ Below w.heap.size w w' := by
  obtain ⟨p, rfl⟩ := h.shape
  have ho' := ho
  obtain ⟨ua, uc, un, rfl⟩ : ∃ a cap n, u = .slice a n cap := let ⟨_, ⟨a, cap, hv, _⟩, _⟩ := ho; ⟨a, cap, _, hv⟩
  by_cases hz : checkStore objs = 0
  · have Hr := Lib.hid (checkStore_rising hz)
    have Hd := Lib.hid (show checkRefs l objs = rightErr l objs by unfold checkRefs; rw [if_neg (by simp [hz])])
    have hz' : (checkStore objs != 0) = false := by simpa using hz
    clear hz
    go_enter Try.func30, Try.ntmps30
    go_wp2_with fail
    refine (storeCheck_any objs _ S' _ ho').mono ?_
    rintro e w2 ⟨rfl, hb2⟩
    go_wp2_with fail
    refine (right_any l objs _ _ S S' _ (h.below hb2) (ho.below hb2) Hr.out).mono ?_
    rintro e w3 ⟨rfl, hb3⟩
    go_wp2_with fail
    go_ret
    exact ⟨ret_int Hd.out.symm, below_next hb2 hb3⟩
  · have Hd := Lib.hid (show checkRefs l objs = checkStore objs by unfold checkRefs; rw [if_pos hz])
    have hz' : (checkStore objs != 0) = true := by simpa using hz
    clear hz
    go_enter Try.func30, Try.ntmps30
    go_wp2_with fail
    refine (storeCheck_any objs _ S' _ ho').mono ?_
    rintro e w2 ⟨rfl, hb2⟩
    go_wp2_with fail
    go_ret
    exact ⟨ret_int Hd.out.symm, hb2⟩

set_option maxHeartbeats 400000 in
theorem checkRefs_any (l : List Rf) (objs : List Obj) (v u : Value) (S S' : Nat → Prop) (w : World) (h : RefsV S w v l) (ho : StoreV S' w u objs) :
    Calls Try.prog 31 #[v, u] w fun e w' => e = .returned (.int .i64 (checkRefs l objs)) ∧ Below w.heap.size w w' := by
  obtain ⟨p, rfl⟩ := h.shape
  have ho' := ho
  obtain ⟨ua, uc, un, rfl⟩ : ∃ a cap n, u = .slice a n cap := let ⟨_, ⟨a, cap, hv, _⟩, _⟩ := ho; ⟨a, cap, _, hv⟩
  by_cases hz : checkStore objs = 0
  · have Hd := Lib.hid (show checkRefs l objs = rightErr l objs by unfold checkRefs; rw [if_neg (by simp [hz])])
    have hz' : (checkStore objs == 0) = true := by simpa using hz
    clear hz
    go_enter Try.func31, Try.ntmps31
    go_wp2_with fail
    refine (checkStore_any objs _ S' _ ho').mono ?_
    rintro e w2 ⟨rfl, hb2⟩
    go_wp2_with fail
    refine (checkRight_any l objs _ _ S S' _ (h.below hb2) (ho.below hb2)).mono ?_
    rintro e w3 ⟨rfl, hb3⟩
    go_wp2_with fail
    go_ret
    exact ⟨ret_int Hd.out.symm, below_next hb2 hb3⟩
  · have Hd := Lib.hid (show checkRefs l objs = checkStore objs by unfold checkRefs; rw [if_pos hz])
    have hz' : (checkStore objs == 0) = false := by simpa using hz
    clear hz
    go_enter Try.func31, Try.ntmps31
    go_wp2_with fail
    refine (checkStore_any objs _ S' _ ho').mono ?_
    rintro e w2 ⟨rfl, hb2⟩
    go_wp2_with fail
    go_ret
    exact ⟨ret_int Hd.out.symm, hb2⟩

/-- D1: what Get answers -/
def getE (l : List Rf) (s : ByteArray) : Int := if nameErr s ≠ 0 then nameErr s else if findRf l s < 0 then 5 else 0
def getN (l : List Rf) (s : ByteArray) : Int := if nameErr s ≠ 0 then 0 else if findRf l s < 0 then 0 else (rf l (findRf l s).toNat).id

theorem ret_ii {a b c d : Int} (h : a = b) (hx : c = d) : Ending.returned (.tuple #[.int .i64 a, .int .i64 c]) = .returned (.tuple #[.int .i64 b, .int .i64 d]) := by rw [h, hx]

set_option maxHeartbeats 1000000 in
theorem get_any (l : List Rf) (v : Value) (S : Nat → Prop) (s : ByteArray) (w : World) (h : RefsV S w v l) (hs : s.size ≤ 140737488351232) :
    Calls Try.prog 25 #[v, .string s] w fun e w' => e = .returned (.tuple #[.int .i64 (getN l s), .int .i64 (getE l s)]) ∧ Below w.heap.size w w' := by
  have h' := h
  obtain ⟨a, n, cap, HN, rfl, h1, h2, h3, h4, h5⟩ := h.open
  clear h h5
  have Hna := Lib.hid (fun x => name_any s x hs)
  by_cases hz : nameErr s = 0
  · have hz' : (nameErr s != 0) = false := by simpa using hz
    rcases findRf_cases l s with hf | ⟨k, hk, hf, _⟩
    · have HE := Lib.hid (show getE l s = 5 by unfold getE; rw [if_neg (by simp [hz]), if_pos (by omega)])
      have HG := Lib.hid (show getN l s = 0 by unfold getN; rw [if_neg (by simp [hz]), if_pos (by omega)])
      clear hz
      go_enter Try.func25, Try.ntmps25
      go_wp2_with fail
      refine (Hna.out _).mono ?_
      rintro e w2 ⟨rfl, rfl⟩
      go_wp2_with fail
      refine (find_any l _ S s _ h').mono ?_
      rintro e w2 ⟨rfl, hb2⟩
      rw [hf]
      go_wp2_with fail
      go_ret2
      exact ⟨ret_ii HG.out.symm HE.out.symm, hb2⟩
    · have HE := Lib.hid (show getE l s = 0 by unfold getE; rw [if_neg (by simp [hz]), if_neg (by omega)])
      have HG := Lib.hid (show getN l s = (rf l k).id by unfold getN; rw [if_neg (by simp [hz]), if_neg (by omega), hf]; rfl)
      have hkn : k < n := by rw [HN.out]; exact hk
      obtain ⟨b, off, rfl, hb, k0, k1⟩ := h4 (by omega)
      have x1 := fun x => k1 k x hkn
      clear h4 k0 k1 hz hk
      go_enter Try.func25, Try.ntmps25
      go_wp2_with fail
      refine (Hna.out _).mono ?_
      rintro e w2 ⟨rfl, rfl⟩
      go_wp2_with fail
      refine (find_any l _ S s _ h').mono ?_
      rintro e w2 ⟨rfl, hb2⟩
      rw [hf]
      have x12 := x1 _ hb2
      go_wp2_with fail
      go_ret2
      exact ⟨ret_ii HG.out.symm HE.out.symm, hb2⟩
  · have hz' : (nameErr s != 0) = true := by simpa using hz
    have HE := Lib.hid (show getE l s = nameErr s by unfold getE; rw [if_pos hz])
    have HG := Lib.hid (show getN l s = 0 by unfold getN; rw [if_pos hz])
    clear hz
    go_enter Try.func25, Try.ntmps25
    go_wp2_with fail
    refine (Hna.out _).mono ?_
    rintro e w2 ⟨rfl, rfl⟩
    go_wp2_with fail
    go_ret2
    exact ⟨ret_ii HG.out.symm HE.out.symm, Below.refl _ _⟩
end Go.Proofs.Ytcppgkhkijejoaa
