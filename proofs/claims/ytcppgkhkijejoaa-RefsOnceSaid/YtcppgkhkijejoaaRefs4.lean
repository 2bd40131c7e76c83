/- Walks: what is wrong with refs: the program's Right. -/
import Derived.Test.YtcppgkhkijejoaaRefs3
import Derived.Deep.DeepCutAuto
namespace Go.Proofs.Ytcppgkhkijejoaa
open Go.RowKit
set_option linter.unusedVariables false
set_option linter.unusedSimpArgs false

set_option maxHeartbeats 400000 in
theorem liteHasPrefix_any (x p : ByteArray) (w : World) (hx : x.size ≤ 140737488351232) (hp : p.size ≤ 9223372036854775807) :
    Calls Try.prog 97 #[.string x, .string p] w fun e w' => e = .returned (.bool (decide (p.size ≤ x.size) && ((x.extract 0 p.size).toList == p.toList))) ∧ w = w' := by
  by_cases h : p.size ≤ x.size
  · have hd : decide (p.size ≤ x.size) = true := by simpa using h
    have Hd := Lib.hid hd; clear hd
    generalize hq : ((x.extract 0 p.size).toList == p.toList) = q
    go_enter Try.func97, Try.ntmps97
    go_wp2
    go_ret
    exact ⟨by simp [*], rfl⟩
  · have hd : decide (p.size ≤ x.size) = false := by simpa using h
    have Hd := Lib.hid hd; clear hd
    go_enter Try.func97, Try.ntmps97
    go_wp2
    go_ret
    exact ⟨by simp [*], rfl⟩

set_option maxHeartbeats 400000 in
theorem hasPrefix_any (x p : ByteArray) (w : World) (hx : x.size ≤ 140737488351232) (hp : p.size ≤ 9223372036854775807) :
    Calls Try.prog 83 #[.string x, .string p] w fun e w' => e = .returned (.bool (decide (p.size ≤ x.size) && ((x.extract 0 p.size).toList == p.toList))) ∧ w = w' := by
  have hl := Lib.hid (liteHasPrefix_any x p w hx hp)
  generalize (decide (p.size ≤ x.size) && ((x.extract 0 p.size).toList == p.toList)) = b at *
  go_enter Try.func83, Try.ntmps83
  go_wp2_with fail
  refine hl.out.mono ?_
  rintro e w' ⟨rfl, rfl⟩
  go_wp2_with fail
  go_ret
  exact ⟨rfl, rfl⟩

set_option maxHeartbeats 400000 in
theorem right1_any (r x : Rf) (a : Addr) (w : World) (hc : w.cell? a = some (.string r.name)) (ha : a.spot = none) (hr : r.name.size ≤ 140737488351232) (hx : x.name.size ≤ 140737488351232) :
    Calls Try.prog 82 #[.agg #[.string x.name, .int .i64 x.id], .pointer (some a)] w fun e w' => e = .returned (.bool (inPlace r.name x.name)) ∧ Below w.heap.size w w' := by
  obtain ⟨b, off, sp⟩ := a
  simp only at ha
  subst ha
  obtain ⟨R, hR, hR1, hxx⟩ := cls_box w #[.string x.name, .int .i64 x.id] 43
  have hx0 := hxx 0 _ rfl _ hR1
  have hx1 := hxx 1 _ rfl _ hR1
  have hc2 := below_cell (hR.below _ hR1) hc
  have hbw := hR.below _ hR1
  have hsz : (r.name ++ ⟨#[47]⟩ : ByteArray).size = r.name.size + 1 := by rw [ByteArray.size_append]; rfl
  have Hp := Lib.hid (fun w => hasPrefix_any x.name (r.name ++ ⟨#[47]⟩) w hx (by rw [hsz]; omega))
  have Hq := Lib.hid (prefix_slash r.name x.name)
  clear hsz
  clear hxx hR1 hR hc
  go_enter Try.func82, Try.ntmps82
  go_wp2_with fail
  refine (Hp.out _).mono ?_
  rintro e w' ⟨rfl, rfl⟩
  rw [Hq.out]
  go_wp2_with fail
  go_ret
  exact ⟨rfl, hbw⟩

set_option maxHeartbeats 400000 in
theorem containsFunc_any (l : List Rf) (v c : Value) (S : Nat → Prop) (g : Nat) (p : Rf → Bool) (w : World) (h : RefsV S w v l) (eg : ∀ args w, (callFunc g args).run Try.prog w = .ok (.enter g args) w) (hp : AsksP' g c p w l) :
    Calls Try.prog 81 #[v, .func (.func g) #[] #[c]] w fun e w' => e = .returned (.bool (l.any p)) ∧ Below w.heap.size w w' := by
  obtain ⟨q, rfl⟩ := h.shape
  have Hi := Lib.hid (indexFunc_any' l _ c S g p w h eg hp)
  rcases idxP_cases p l with ⟨h0, h1⟩ | ⟨k, hk, h0, h1⟩
  · have Ha := Lib.hid (show l.any p = false by
      rw [List.any_eq_false]
      intro x hx
      obtain ⟨i, hi, rfl⟩ := List.getElem_of_mem hx
      have := h1 i hi
      rw [rf_lt hi] at this
      simp [this])
    clear h1 hp
    go_enter Try.func81, Try.ntmps81
    go_wp2_with fail
    refine Hi.out.mono ?_
    rintro e w' ⟨rfl, hb⟩
    rw [h0]
    go_wp2_with fail
    go_ret
    exact ⟨by rw [Ha.out]; rfl, hb⟩
  · have Ha := Lib.hid (show l.any p = true by
      rw [List.any_eq_true]
      exact ⟨rf l k, by rw [rf_lt hk]; exact List.getElem_mem hk, h1⟩)
    have hd : decide ((0 : Int) ≤ (k : Int)) = true := by simp
    clear h1 hp
    go_enter Try.func81, Try.ntmps81
    go_wp2_with fail
    refine Hi.out.mono ?_
    rintro e w' ⟨rfl, hb⟩
    rw [h0]
    go_wp2_with fail
    go_ret
    exact ⟨by rw [Ha.out]; first | rfl | simp, hb⟩

theorem any_pair {l : List Rf} {k : Nat} : (l.any fun x => inPlace (rf l k).name x.name) = true → ∃ i, i < l.length ∧ inPlace (rf l k).name (rf l i).name = true := by
  intro h
  rw [List.any_eq_true] at h
  obtain ⟨x, hx, h⟩ := h
  obtain ⟨i, hi, rfl⟩ := List.getElem_of_mem hx
  exact ⟨i, hi, by rw [rf_lt hi]; exact h⟩
theorem no_pair {l : List Rf} {k : Nat} (h : (l.any fun x => inPlace (rf l k).name x.name) = false) : ∀ i, i < l.length → inPlace (rf l k).name (rf l i).name = false := by
  intro i hi
  rw [List.any_eq_false] at h
  have := h _ (List.getElem_mem hi)
  rw [rf_lt hi]; simpa using this

set_option maxRecDepth 100000 in
set_option maxHeartbeats 4000000 in
theorem right_any (l : List Rf) (objs : List Obj) (v u : Value) (S S' : Nat → Prop) (w : World) (h : RefsV S w v l) (ho : StoreV S' w u objs) (hr : Rising objs) :
    Calls Try.prog 62 #[v, u] w fun e w' => e = .returned (.int .i64 (rightErr l objs)) ∧ Below w.heap.size w w' := by
  have h' := h
  obtain ⟨a, n, cap, HN, rfl, h1, h2, h3, h4, h5⟩ := h.open
  clear h
  obtain ⟨ua, uc, un, rfl⟩ : ∃ a cap n, u = .slice a n cap := let ⟨_, ⟨a, cap, hv, _⟩, _⟩ := ho; ⟨a, cap, _, hv⟩
  have hmf : ∀ (fn : Fn) (first cap : Array Value) (w : World), (Instr.makeFunc fn first cap).run Try.prog w = .ok (.func fn first cap) w := fun _ _ _ _ => rfl
  obtain ⟨R, hR, hR1, _⟩ := cls_plain w
  have hRb := hR.below
  have hRn := hR.next
  by_cases h8 : 8 < n
  · have He := Lib.hid (rightErr_many (l := l) (objs := objs) (by rw [← HN.out]; exact h8))
    go_enter Try.func62, Try.ntmps62
    go_wp2_with fail
    go_ret
    exact ⟨ret_int He.out.symm, hRb _ hR1⟩
  · have hl8 : l.length ≤ 8 := by rw [← HN.out]; omega
    have Href := Lib.hid (fun i e (h0 : scan (refErr l objs) i = 0) (hi : i < n) (he : refErr l objs i = e) (hne : e ≠ 0) => rightErr_ref hl8 h0 (by rw [← HN.out]; exact hi) he hne)
    have Hpair := Lib.hid (fun i k (h0 : scan (refErr l objs) n = 0) (hi : i < n) (hk : k < l.length) (he : inPlace (rf l i).name (rf l k).name = true) => rightErr_pair hl8 (by rw [← HN.out]; exact h0) (by rw [← HN.out]; exact hi) hk he)
    have Hok := Lib.hid (fun (h0 : scan (refErr l objs) n = 0) (hp : ∀ i, i < n → ∀ k, k < l.length → inPlace (rf l i).name (rf l k).name = false) => rightErr_ok (l := l) (objs := objs) hl8 (by rw [← HN.out]; exact h0) (fun i k hi hk => hp i (by rw [HN.out]; exact hi) k hk))
    clear hl8
    go_enter Try.func62, Try.ntmps62
    go_wp2_with fail
    go_loopw [15] (fun i wr => ∃ k : Nat, k ≤ n ∧ i = .int .i64 k ∧ Hid (scan (refErr l objs) k = 0) ∧ In R wr) (fun i _ => n - (intOf i).toNat)
    case atStart => exact ⟨0, by omega, rfl, rfl, hR1⟩
    case round =>
      obtain ⟨k, hk, rfl, Hs, hRw⟩ := hrel
      clear hR1
      by_cases hlt : k < n
      · obtain ⟨b, off, rfl, hb, k0, k1⟩ := h4 (by omega)
        have x0 := k0 k wr hlt (hRb _ hRw)
        have x1 := k1 k wr hlt (hRb _ hRw)
        have hnm := (h5 k hlt).2
        have Hk0 := Lib.hid k0
        clear h4 h5 k0 k1
        obtain ⟨Q, hQ, hQ1, hy⟩ := cls_box wr #[.string (rf l k).name, .int .i64 (rf l k).id] 43
        have y0 := hy 0 _ rfl
        have y1 := hy 1 _ rfl
        clear hy
        have hQb : ∀ x, In Q x → Below w.heap.size w x := fun x hx => below_next (hRb _ hRw) (hQ.below x hx)
        have hQn := hQ.next
        have hQd := hQ.drewN
        have Hre := Lib.hid (show refErr l objs k = if nameErr (rf l k).name ≠ 0 then nameErr (rf l k).name else if 0 < k ∧ strLt (rf l (k - 1)).name (rf l k).name = false then 4 else commitErr objs (rf l k).id from rfl)
        generalize hne : nameErr (rf l k).name = ne at *
        have Hna := Lib.hid (fun x => by have := name_any (rf l k).name x hnm; rw [hne] at this; exact this)
        clear hne hnm
        go_wp2_with fail
        refine (Hna.out _).mono ?_
        rintro e w2 ⟨rfl, rfl⟩
        go_upto_region 7 with fail
        go_cut [39] (fun s39 wx => s39 = .bool (decide (ne = 0 ∧ 0 < k ∧ strLt (rf l (k - 1)).name (rf l k).name = false)) ∧ ∃ x, x = wx ∧ In Q x)
        case first =>
          cases hz : (ne == 0)
          · have Hz := Lib.hid (show ne ≠ 0 by simpa using hz)
            go_quiet (fail)
            go_wp2_with fail
            go_meet
            exact ⟨by simp [Hz.out], _, rfl, hQd _ _ hQ1⟩
          · have Hz := Lib.hid (show ne = 0 by simpa using hz)
            by_cases hk0 : 0 < k
            · have hkm : ∀ x, In Q x → x.cell? ⟨b, off + (k - 1) * 2, none⟩ = some (.string (rf l (k - 1)).name) := fun x hx => Hk0.out (k - 1) x (by omega) (hQb x hx)
              have hi3 : (0 : Int) ≤ (k : Int) - 1 := by omega
              have hi4 : (1 : Int) ≤ (k : Int) := by omega
              have hi5 : (k : Int) - 1 < (n : Int) := by omega
              have hi6 : (0 : Int) < (k : Int) := by omega
              have hwr2 := wrap_in (n := (k : Int) - 1) (by omega)
              have htn : ((k : Int) - 1).toNat = k - 1 := by omega
              have Hst := Lib.hid (show strLt (rf l (k - 1)).name (rf l k).name = Op.bytesLess (rf l (k - 1)).name.toList (rf l k).name.toList from rfl)
              cases hq : Op.bytesLess (rf l (k - 1)).name.toList (rf l k).name.toList
              all_goals
                go_quiet (fail)
                go_wp2_with fail
                go_meet
                exact ⟨by rw [Hst.out, hq]; simp [Hz.out, hk0], _, rfl, hQd _ _ hQ1⟩
            · have hd : decide ((0 : Int) < (k : Int)) = false := by simp; omega
              go_quiet (fail)
              go_wp2_with fail
              go_meet
              exact ⟨by simp [hk0], _, rfl, hQd _ _ hQ1⟩
        case rest =>
          obtain ⟨rfl, w3, rfl, hQ3⟩ := hcut
          clear hQ1 x0 x1
          by_cases hbad : ne = 0 ∧ 0 < k ∧ strLt (rf l (k - 1)).name (rf l k).name = false
          · have hd : decide (ne = 0 ∧ 0 < k ∧ strLt (rf l (k - 1)).name (rf l k).name = false) = true := by simpa using hbad
            rw [hd]
            have HE := Lib.hid (Href.out k 4 Hs.out hlt (by rw [Hre.out, if_neg (by simp [hbad.1]), if_pos ⟨hbad.2.1, hbad.2.2⟩]) (by decide))
            clear hbad hd
            go_wp2
            go_ret
            exact ⟨ret_int HE.out.symm, hQb _ hQ3⟩
          · have hd : decide (ne = 0 ∧ 0 < k ∧ strLt (rf l (k - 1)).name (rf l k).name = false) = false := by simpa using hbad
            rw [hd]
            clear hd
            have Hbad := Lib.hid hbad; clear hbad
            cases hz : (ne == 0)
            · have hz2 : (ne != 0) = true := by show (!(ne == 0)) = true; rw [hz]; rfl
              have HE := Lib.hid (Href.out k ne Hs.out hlt (by rw [Hre.out, if_pos (by simpa using hz)]) (by simpa using hz))
              go_wp2
              go_ret
              exact ⟨ret_int HE.out.symm, hQb _ hQ3⟩
            · have HE := Lib.hid (show refErr l objs k = commitErr objs (rf l k).id by
                have hne0 : ne = 0 := by simpa using hz
                rw [Hre.out, if_neg (by simp [hne0]), if_neg (fun h => Hbad.out ⟨hne0, h.1, h.2⟩)])
              have y13 := y1 _ hQ3
              go_wp2_with fail
              refine (refsCommit_any objs _ S' _ _ (ho.below (hQb _ hQ3)) hr).mono ?_
              rintro e w4 ⟨rfl, hb4⟩
              have hQ4 := hQn _ _ hQ3 hb4
              clear hb4 y13
              by_cases hce : commitErr objs (rf l k).id = 0
              · have hce' : (commitErr objs (rf l k).id != 0) = false := by simpa using hce
                have HN2 := Lib.hid (scan_next Hs.out (HE.out.trans hce))
                clear hce
                go_wp2_with fail
                go_roundw
                case rel => exact ⟨k + 1, by omega, by go_num, HN2.out, hRn _ _ hRw (hQ.below _ hQ4)⟩
                case measure => simp [intOf]; omega
              · have hce' : (commitErr objs (rf l k).id != 0) = true := by simpa using hce
                have HN2 := Lib.hid (Href.out k _ Hs.out hlt HE.out hce)
                clear hce
                go_wp2_with fail
                go_ret
                exact ⟨ret_int HN2.out.symm, hQb _ hQ4⟩
      · obtain rfl : k = n := by omega
        go_wp2_with fail
        go_loopw [52] (fun i wr => ∃ m : Nat, m ≤ k ∧ i = .int .i64 m ∧ Hid (∀ i, i < m → ∀ j, j < l.length → inPlace (rf l i).name (rf l j).name = false) ∧ In R wr) (fun i _ => k - (intOf i).toNat)
        case atStart => exact ⟨0, by omega, rfl, fun i hi => absurd hi (by omega), hRw⟩
        case round =>
          obtain ⟨m, hm, rfl, Hm, hRv⟩ := hrel
          clear hRw
          by_cases hlt2 : m < k
          · obtain ⟨b, off, rfl, hb, k0, k1⟩ := h4 (by omega)
            have x0 := k0 m wr hlt2 (hRb _ hRv)
            have x1 := k1 m wr hlt2 (hRb _ hRv)
            have hnm := (h5 m hlt2).2
            have H5 := Lib.hid (fun i (hi : i < l.length) => (h5 i (by rw [HN.out]; exact hi)).2)
            clear h4 h5 k0 k1
            obtain ⟨Q, hQ, hQ1, hy⟩ := cls_box wr #[.string (rf l m).name, .int .i64 (rf l m).id] 43
            have Hy := Lib.hid (hy 0 _ rfl)
            clear hy
            have hQb : ∀ x, In Q x → Below w.heap.size w x := fun x hx => below_next (hRb _ hRv) (hQ.below x hx)
            have hQn := hQ.next
            have Hap := Lib.hid (show AsksP' 82 (.pointer (some ⟨wr.heap.size, 0, none⟩)) (fun x => inPlace (rf l m).name x.name) (wr.alloc (.cells #[.string (rf l m).name, .int .i64 (rf l m).id] 43)) l from
              fun x i hi hx => right1_any (rf l m) (rf l i) ⟨wr.heap.size, 0, none⟩ x (Hy.out x (hQn _ _ hQ1 hx)) rfl hnm (H5.out i hi))
            clear hnm
            go_wp2_with fail
            refine (containsFunc_any l _ _ S _ _ _ (h'.below (hQb _ hQ1)) (fun _ _ => rfl) Hap.out).mono ?_
            rintro e w4 ⟨rfl, hb4⟩
            have hQ4 := hQn _ _ hQ1 hb4
            clear hb4 x0 x1
            cases hany : (l.any fun x => inPlace (rf l m).name x.name)
            · have HM := Lib.hid (all_next Hm.out (no_pair hany))
              go_wp2_with fail
              go_roundw
              case rel => exact ⟨m + 1, by omega, by go_num, HM.out, hRn _ _ hRv (hQ.below _ hQ4)⟩
              case measure => simp [intOf]; omega
            · have HM := Lib.hid (let ⟨i, hi, h⟩ := any_pair hany; Hpair.out m i Hs.out hlt2 hi h)
              go_wp2_with fail
              go_ret
              exact ⟨ret_int HM.out.symm, hQb _ hQ4⟩
          · obtain rfl : m = k := by omega
            have HE := Lib.hid (Hok.out Hs.out Hm.out)
            go_wp2_with fail
            go_ret
            exact ⟨ret_int HE.out.symm, hRb _ hRv⟩
end Go.Proofs.Ytcppgkhkijejoaa
