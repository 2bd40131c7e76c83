
/- Walks: updates: what is wrong with them, the program's Check and the reference's CheckUpdates. -/
import Derived.Test.YtdhoodloklgokaaGreatDoorUpdP
import Derived.Deep.DeepCutAuto
namespace Go.Proofs.YtdhoodloklgokaaGreatDoor
open Go.RowKit
set_option linter.unusedVariables false
set_option linter.unusedSimpArgs false

theorem updId_any (n : Int) (w : World) : Calls Tryz.prog 193 #[.int .i64 n] w fun e w' => e = .returned (.bool (within n 0 99)) ∧ w = w' := by
  go_enter Tryz.func193, Tryz.ntmps193
  go_wp2
  all_goals go_ret
  all_goals (refine ⟨?_, rfl⟩; simp [within, *])
  omega

/-- the first for which p holds, or -1 -/
def idxPU (p : Mv → Bool) (l : List Mv) : Int := match l.findIdx? p with | some i => (i : Int) | none => -1
theorem idxPU_hit {l : List Mv} {p : Mv → Bool} {k : Nat} (h : ∀ j, j < k → p (mv l j) = false) (hk : k < l.length) (he : p (mv l k) = true) : idxPU p l = k := by
  unfold idxPU
  have : l.findIdx? p = some k := by
    rw [List.findIdx?_eq_some_iff_getElem]
    refine ⟨hk, by rw [← mv_lt hk]; exact he, fun j hj => ?_⟩
    have := h j hj
    rw [mv_lt (by omega)] at this
    simp [this]
  rw [this]
theorem idxPU_none {l : List Mv} {p : Mv → Bool} (h : ∀ j, j < l.length → p (mv l j) = false) : idxPU p l = -1 := by
  unfold idxPU
  have : l.findIdx? p = none := by
    rw [List.findIdx?_eq_none_iff]
    intro x hx
    obtain ⟨i, hi, rfl⟩ := List.getElem_of_mem hx
    have := h i hi
    rwa [mv_lt hi] at this
  rw [this]
theorem idxPU_cases (p : Mv → Bool) (l : List Mv) : (idxPU p l = -1 ∧ ∀ j, j < l.length → p (mv l j) = false) ∨ ∃ k, k < l.length ∧ idxPU p l = (k : Int) ∧ p (mv l k) = true := by
  unfold idxPU
  cases h : l.findIdx? p with
  | none =>
    rw [List.findIdx?_eq_none_iff] at h
    exact .inl ⟨rfl, fun j hj => by rw [mv_lt hj]; exact h _ (List.getElem_mem hj)⟩
  | some k =>
    rw [List.findIdx?_eq_some_iff_getElem] at h
    obtain ⟨hk, he, _⟩ := h
    exact .inr ⟨k, hk, rfl, by rw [mv_lt hk]; exact he⟩

/-- a function value that asks p of the updates of l, in whatever world comes behind w -/
def AsksU (g : Nat) (c : Value) (p : Mv → Bool) (w : World) (l : List Mv) : Prop :=
  ∀ (x : World) (i : Nat), i < l.length → Below w.heap.size w x → Calls Tryz.prog g #[.agg #[.string (mv l i).name, .int .i64 (mv l i).old, .int .i64 (mv l i).new], c] x fun e w' => e = .returned (.bool (p (mv l i))) ∧ Below x.heap.size x w'

set_option maxHeartbeats 1000000 in
theorem indexFuncU_any (l : List Mv) (v c : Value) (S : Nat → Prop) (g : Nat) (p : Mv → Bool) (w : World) (h : MvsV S w v l) (eg : ∀ args w, (callFunc g args).run Tryz.prog w = .ok (.enter g args) w) (hp : AsksU g c p w l) :
    Calls Tryz.prog 240 #[v, .func (.func g) #[] #[c]] w fun e w' => e = .returned (.int .i64 (idxPU p l)) ∧ Below w.heap.size w w' := by
  obtain ⟨a, n, cap, HN, rfl, h1, h2, h3, h4⟩ := h.open
  clear h
  obtain ⟨R, hR, hR1, _⟩ := cls_plain w
  have hRb := hR.below
  have hRn := hR.next
  have Hp := Lib.hid (fun x k (hk : k < n) hx => hp x k (by rw [← HN.out]; exact hk) hx); clear hp
  have Hh := Lib.hid (fun k h1 hk he => idxPU_hit (l := l) (p := p) (k := k) h1 (by rw [← HN.out]; exact hk) he)
  have Hn := Lib.hid (fun h1 => idxPU_none (l := l) (p := p) (by rw [← HN.out]; exact h1))
  go_enter Tryz.func240, Tryz.ntmps240
  go_wp2_with fail
  go_loopw [8] (fun i wr => ∃ k : Nat, k ≤ n ∧ i = .int .i64 k ∧ Hid (∀ j, j < k → p (mv l j) = false) ∧ In R wr) (fun i _ => n - (intOf i).toNat)
  case atStart => exact ⟨0, by omega, rfl, fun j hj => absurd hj (by omega), hR1⟩
  case round =>
    obtain ⟨k, hk, rfl, Hs, hRw⟩ := hrel
    clear hR1
    by_cases hlt : k < n
    · obtain ⟨b, off, rfl, hb, k0, k1, k2⟩ := h4 (by omega)
      have x0 := k0 k wr hlt (hRb _ hRw)
      have x1 := k1 k wr hlt (hRb _ hRw)
      have x2 := k2 k wr hlt (hRb _ hRw)
      clear h4 k0 k1 k2
      cases hq : p (mv l k)
      · have He := Lib.hid hq
        go_wp2_with fail
        refine (Hp.out _ k hlt (hRb _ hRw)).mono ?_
        rintro e w' ⟨rfl, hb2⟩
        rw [hq]
        have hR2 := hRn _ _ hRw hb2
        go_wp2_with fail
        go_roundw
        case rel => exact ⟨k + 1, by omega, by go_num, all_next Hs.out He.out, hR2⟩
        case measure => simp [intOf]; omega
      · have HK := Lib.hid (Hh.out k Hs.out hlt hq)
        go_wp2_with fail
        refine (Hp.out _ k hlt (hRb _ hRw)).mono ?_
        rintro e w' ⟨rfl, hb2⟩
        rw [hq]
        have hR2 := hRn _ _ hRw hb2
        go_wp2_with fail
        go_ret
        exact ⟨ret_int HK.out.symm, hRb _ hR2⟩
    · obtain rfl : k = n := by omega
      have HK := Lib.hid (Hn.out Hs.out)
      go_wp2_with fail
      go_ret
      exact ⟨ret_int HK.out.symm, hRb _ hRw⟩

set_option maxHeartbeats 400000 in
theorem containsFuncU_any (l : List Mv) (v c : Value) (S : Nat → Prop) (g : Nat) (p : Mv → Bool) (w : World) (h : MvsV S w v l) (eg : ∀ args w, (callFunc g args).run Tryz.prog w = .ok (.enter g args) w) (hp : AsksU g c p w l) :
    Calls Tryz.prog 194 #[v, .func (.func g) #[] #[c]] w fun e w' => e = .returned (.bool (l.any p)) ∧ Below w.heap.size w w' := by
  obtain ⟨q, rfl⟩ := h.shape
  have Hi := Lib.hid (indexFuncU_any l _ c S g p w h eg hp)
  rcases idxPU_cases p l with ⟨h0, h1⟩ | ⟨k, hk, h0, h1⟩
  · have Ha := Lib.hid (show l.any p = false by
      rw [List.any_eq_false]
      intro x hx
      obtain ⟨i, hi, rfl⟩ := List.getElem_of_mem hx
      have := h1 i hi
      rw [mv_lt hi] at this
      simp [this])
    clear h1 hp
    go_enter Tryz.func194, Tryz.ntmps194
    go_wp2_with fail
    refine Hi.out.mono ?_
    rintro e w' ⟨rfl, hb⟩
    rw [h0]
    go_wp2_with fail
    go_ret
    exact ⟨by rw [Ha.out]; rfl, hb⟩
  · have Ha := Lib.hid (show l.any p = true by
      rw [List.any_eq_true]
      exact ⟨mv l k, by rw [mv_lt hk]; exact List.getElem_mem hk, h1⟩)
    have hd : decide ((0 : Int) ≤ (k : Int)) = true := by simp
    clear h1 hp
    go_enter Tryz.func194, Tryz.ntmps194
    go_wp2_with fail
    refine Hi.out.mono ?_
    rintro e w' ⟨rfl, hb⟩
    rw [h0]
    go_wp2_with fail
    go_ret
    exact ⟨by rw [Ha.out]; first | rfl | simp, hb⟩

set_option maxHeartbeats 400000 in
theorem updCheck1_any (x u : Mv) (a : Addr) (w : World) (ha : a.spot = none) (hc : w.cell? a = some (.string u.name)) :
    Calls Tryz.prog 195 #[.agg #[.string x.name, .int .i64 x.old, .int .i64 x.new], .pointer (some a)] w fun e w' => e = .returned (.bool (x.name.toList == u.name.toList)) ∧ Below w.heap.size w w' := by
  obtain ⟨b, off, sp⟩ := a
  simp only at ha
  subst ha
  obtain ⟨R, hR, hR1, hx⟩ := cls_box w #[.string x.name, .int .i64 x.old, .int .i64 x.new] 93
  have hx0 := hx 0 _ rfl _ hR1
  have hc2 := below_cell (hR.below _ hR1) hc
  have hbw := hR.below _ hR1
  clear hx hR1 hR hc
  generalize hq : (x.name.toList == u.name.toList) = q
  go_enter Tryz.func195, Tryz.ntmps195
  go_wp2_with fail
  go_ret
  exact ⟨rfl, hbw⟩

theorem MvsV.take {S : Nat → Prop} {w : World} {a : Option Addr} {n cap : Nat} {l : List Mv} (h : MvsV S w (.slice a n cap) l) {i : Nat} (hi : i ≤ l.length) : MvsV S w (.slice a i cap) (l.take i) := by
  obtain ⟨⟨a', cap', hv, h1, h2, h3, h4⟩, h5⟩ := h
  cases hv
  have hl : (l.take i).length = i := by rw [List.length_take]; omega
  have hmv : ∀ j, j < i → mv (l.take i) j = mv l j := fun j hj => by
    unfold mv at_; simp only [List.getD_eq_getElem?_getD, List.getElem?_take, if_pos hj]
  refine ⟨⟨a, cap, by rw [hl], by omega, h2, by omega, fun hn => ?_⟩, fun u hu => h5 u (List.mem_of_mem_take hu)⟩
  obtain ⟨b, off, ha, hS, hc⟩ := h4 (by omega)
  exact ⟨b, off, ha, hS, fun j hj q u hu => by simp only [hmv j (by omega)] at hu; exact hc j (by omega) q u hu⟩

theorem dup_take {l : List Mv} {i : Nat} (hi : i ≤ l.length) : ((l.take i).any fun x => x.name.toList == (mv l i).name.toList) = dupB l i := by
  unfold dupB
  rw [Bool.eq_iff_iff, List.any_eq_true, List.any_eq_true]
  constructor
  · rintro ⟨x, hx, e⟩
    obtain ⟨j, hj, rfl⟩ := List.getElem_of_mem hx
    have hj' : j < i := by simp at hj; omega
    exact ⟨j, List.mem_range.2 hj', by rw [mv_lt (show j < l.length by omega)]; simpa using e⟩
  · rintro ⟨k, hk, e⟩
    have hk' := List.mem_range.1 hk
    exact ⟨mv l k, by rw [mv_lt (show k < l.length by omega)]; exact List.mem_take_iff_getElem.2 ⟨k, by omega, rfl⟩, e⟩

set_option maxRecDepth 100000 in
set_option maxHeartbeats 4000000 in
theorem updCheck_any (l : List Mv) (v : Value) (S : Nat → Prop) (w : World) (h : MvsV S w v l) :
    Calls Tryz.prog 145 #[v] w fun e w' => e = .returned (.int .i64 (checkMvs l)) ∧ Below w.heap.size w w' := by
  have h' := h
  obtain ⟨a, n, cap, HN, rfl, h1, h2, h3, h4⟩ := h.open
  have H5 := Lib.hid (fun i (hi : i < n) => (h.each (i := i) (by rw [← HN.out]; exact hi)))
  clear h
  obtain ⟨R, hR, hR1, _⟩ := cls_plain w
  have hRb := hR.below
  have hRn := hR.next
  by_cases h0 : n = 0
  · have He := Lib.hid (checkMvs_none (l := l) (by rw [← HN.out]; exact h0))
    have hq : ((n : Int) == 0) = true := by simpa using h0
    subst h0
    go_enter Tryz.func145, Tryz.ntmps145
    go_wp2_with fail
    go_ret
    exact ⟨ret_int He.out.symm, hRb _ hR1⟩
  by_cases h8 : 4 < n
  · have He := Lib.hid (checkMvs_many (l := l) (by rw [← HN.out]; exact h8))
    have hq : ((n : Int) == 0) = false := by simpa using h0
    clear h0
    go_enter Tryz.func145, Tryz.ntmps145
    go_wp2_with fail
    go_ret
    exact ⟨ret_int He.out.symm, hRb _ hR1⟩
  · have Hbad := Lib.hid (fun i e (hs : scan (mvErr l) i = 0) (hi : i < n) (he : mvErr l i = e) (hne : e ≠ 0) => checkMvs_bad (by rw [← HN.out]; omega) (by rw [← HN.out]; omega) hs (by rw [← HN.out]; exact hi) he hne)
    have Hok := Lib.hid (fun (hs : scan (mvErr l) n = 0) => checkMvs_ok (l := l) (by rw [← HN.out]; omega) (by rw [← HN.out]; omega) (by rw [← HN.out]; exact hs))
    have hq : ((n : Int) == 0) = false := by simpa using h0
    clear h0
    go_enter Tryz.func145, Tryz.ntmps145
    go_wp2_with fail
    go_loopw [17] (fun i wr => ∃ k : Nat, k ≤ n ∧ i = .int .i64 k ∧ Hid (scan (mvErr l) k = 0) ∧ In R wr) (fun i _ => n - (intOf i).toNat)
    case atStart => exact ⟨0, by omega, rfl, rfl, hR1⟩
    case round =>
      obtain ⟨k, hk, rfl, Hs, hRw⟩ := hrel
      clear hR1
      by_cases hlt : k < n
      · obtain ⟨b, off, rfl, hb, k0, k1, k2⟩ := h4 (by omega)
        have x0 := k0 k wr hlt (hRb _ hRw)
        have x1 := k1 k wr hlt (hRb _ hRw)
        have x2 := k2 k wr hlt (hRb _ hRw)
        have Hnm := H5.out k hlt
        have Hre := Lib.hid (show mvErr l k = if nameErr (mv l k).name ≠ 0 then nameErr (mv l k).name else if within (mv l k).old 0 99 = false ∨ within (mv l k).new 0 99 = false then 3 else if (mv l k).old = 0 ∧ (mv l k).new = 0 then 1 else if dupB l k = true then 6 else 0 from rfl)
        clear h4 k0 k1 k2
        obtain ⟨Q, hQ, hQ1, hy⟩ := cls_box wr #[.string (mv l k).name, .int .i64 (mv l k).old, .int .i64 (mv l k).new] 93
        have y0 := hy 0 _ rfl _ hQ1
        have y1 := hy 1 _ rfl _ hQ1
        have y2 := hy 2 _ rfl _ hQ1
        have Hy := Lib.hid (hy 0 _ rfl)
        clear hy
        have hQb : ∀ x, In Q x → Below w.heap.size w x := fun x hx => below_next (hRb _ hRw) (hQ.below x hx)
        have hQn := hQ.next
        have Hap := Lib.hid (show AsksU 195 (.pointer (some ⟨wr.heap.size, 0, none⟩)) (fun x => x.name.toList == (mv l k).name.toList) (wr.alloc (.cells #[.string (mv l k).name, .int .i64 (mv l k).old, .int .i64 (mv l k).new] 93)) (l.take k) from
          fun x i hi hx => updCheck1_any _ (mv l k) ⟨wr.heap.size, 0, none⟩ x rfl (Hy.out x (hQn _ _ hQ1 hx)))
        have Hdt := Lib.hid (dup_take (l := l) (i := k) (by have := HN.out; omega))
        have Hcf := Lib.hid (containsFuncU_any (l.take k) _ _ S _ _ _ ((h'.take (i := k) (by have := HN.out; omega)).below (hQb _ hQ1)) (fun _ _ => rfl) Hap.out)
        rw [Hdt.out] at Hcf
        have hi1 : (0 : Int) ≤ (k : Int) := by omega
        have hi2 : (k : Int) < (n : Int) := by omega
        have hi3 : (k : Int) ≤ (cap : Int) := by omega
        have Hna := Lib.hid (fun x => name_any (mv l k).name x Hnm.2.2)
        clear Hnm Hap Hy
        by_cases hz : nameErr (mv l k).name = 0
        · rw [hz] at Hna
          rw [if_neg (by simp [hz])] at Hre
          clear hz
          cases q1 : within (mv l k).old 0 99
          · have HE := Lib.hid (Hbad.out k 3 Hs.out hlt (by rw [Hre.out, if_pos (.inl q1)]) (by decide))
            go_wp2_with (first | (go_at_call 192; refine (Hna.out _).mono ?_; rintro e w' ⟨rfl, rfl⟩) | (go_at_call 193; refine (updId_any _ _).mono ?_; rintro e w' ⟨rfl, rfl⟩))
            go_ret
            exact ⟨ret_int HE.out.symm, hQb _ hQ1⟩
          · cases q2 : within (mv l k).new 0 99
            · have HE := Lib.hid (Hbad.out k 3 Hs.out hlt (by rw [Hre.out, if_pos (.inr q2)]) (by decide))
              go_wp2_with (first | (go_at_call 192; refine (Hna.out _).mono ?_; rintro e w' ⟨rfl, rfl⟩) | (go_at_call 193; refine (updId_any _ _).mono ?_; rintro e w' ⟨rfl, rfl⟩))
              go_ret
              exact ⟨ret_int HE.out.symm, hQb _ hQ1⟩
            · have hno : ¬ (within (mv l k).old 0 99 = false ∨ within (mv l k).new 0 99 = false) := by simp [q1, q2]
              rw [if_neg hno] at Hre
              clear hno
              by_cases hm : (mv l k).old = 0 ∧ (mv l k).new = 0
              · have HE := Lib.hid (Hbad.out k 1 Hs.out hlt (by rw [Hre.out, if_pos hm]) (by decide))
                have q3 : ((mv l k).old == 0) = true := by simpa using hm.1
                have q4 : ((mv l k).new == 0) = true := by simpa using hm.2
                clear hm
                go_wp2_with (first | (go_at_call 192; refine (Hna.out _).mono ?_; rintro e w' ⟨rfl, rfl⟩) | (go_at_call 193; refine (updId_any _ _).mono ?_; rintro e w' ⟨rfl, rfl⟩))
                go_ret
                exact ⟨ret_int HE.out.symm, hQb _ hQ1⟩
              · rw [if_neg hm] at Hre
                have hm3 : ((mv l k).old == 0) = false ∨ (((mv l k).old == 0) = true ∧ ((mv l k).new == 0) = false) := by
                  by_cases h : (mv l k).old = 0
                  · exact .inr ⟨by simpa using h, by simpa using fun h2 => hm ⟨h, h2⟩⟩
                  · exact .inl (by simpa using h)
                clear hm
                cases hd : dupB l k
                · rw [hd] at Hcf
                  have HN2 := Lib.hid (scan_next Hs.out (show mvErr l k = 0 by rw [Hre.out, hd]; simp))
                  rcases hm3 with q3 | ⟨q3, q4⟩
                  all_goals
                    go_wp2_with (first | (go_at_call 192; refine (Hna.out _).mono ?_; rintro e w' ⟨rfl, rfl⟩) | (go_at_call 193; refine (updId_any _ _).mono ?_; rintro e w' ⟨rfl, rfl⟩))
                    refine Hcf.out.mono ?_
                    rintro e w4 ⟨rfl, hb4⟩
                    have hQ4 := hQn _ _ hQ1 hb4
                    clear hb4
                    go_wp2_with fail
                    go_roundw
                    case rel => exact ⟨k + 1, by omega, by go_num, HN2.out, hRn _ _ hRw (hQ.below _ hQ4)⟩
                    case measure => simp [intOf]; omega
                · rw [hd] at Hcf
                  have HE := Lib.hid (Hbad.out k 6 Hs.out hlt (by rw [Hre.out, if_pos hd]) (by decide))
                  rcases hm3 with q3 | ⟨q3, q4⟩
                  all_goals
                    go_wp2_with (first | (go_at_call 192; refine (Hna.out _).mono ?_; rintro e w' ⟨rfl, rfl⟩) | (go_at_call 193; refine (updId_any _ _).mono ?_; rintro e w' ⟨rfl, rfl⟩))
                    refine Hcf.out.mono ?_
                    rintro e w4 ⟨rfl, hb4⟩
                    have hQ4 := hQn _ _ hQ1 hb4
                    clear hb4
                    go_wp2_with fail
                    go_ret
                    exact ⟨ret_int HE.out.symm, hQb _ hQ4⟩
        · have HE := Lib.hid (Hbad.out k _ Hs.out hlt (by rw [Hre.out, if_pos hz]) hz)
          have hz' : (nameErr (mv l k).name != 0) = true := by simpa using hz
          clear hz
          go_wp2_with (go_at_call 192; refine (Hna.out _).mono ?_; rintro e w' ⟨rfl, rfl⟩)
          go_ret
          exact ⟨ret_int HE.out.symm, hQb _ hQ1⟩
      · obtain rfl : k = n := by omega
        have HE := Lib.hid (Hok.out Hs.out)
        go_wp2_with fail
        go_ret
        exact ⟨ret_int HE.out.symm, hRb _ hRw⟩

theorem dup_none {l : List Mv} {i : Nat} (h : ∀ k, k < i → ((mv l k).name.toList == (mv l i).name.toList) = false) : dupB l i = false := by
  unfold dupB
  rw [List.any_eq_false]
  intro k hk
  rw [h k (List.mem_range.1 hk)]; simp
theorem dup_one {l : List Mv} {i k : Nat} (hk : k < i) (h : ((mv l k).name.toList == (mv l i).name.toList) = true) : dupB l i = true := by
  unfold dupB
  rw [List.any_eq_true]
  exact ⟨k, List.mem_range.2 hk, h⟩

set_option maxRecDepth 100000 in
set_option maxHeartbeats 4000000 in
theorem checkUpdates_any (l : List Mv) (v : Value) (S : Nat → Prop) (w : World) (h : MvsV S w v l) :
    Calls Tryz.prog 95 #[v] w fun e w' => e = .returned (.int .i64 (checkMvs l)) ∧ Below w.heap.size w w' := by
  have h' := h
  obtain ⟨a, n, cap, HN, rfl, h1, h2, h3, h4⟩ := h.open
  have H5 := Lib.hid (fun i (hi : i < n) => (h.each (i := i) (by rw [← HN.out]; exact hi)))
  clear h
  obtain ⟨R, hR, hR1, _⟩ := cls_plain w
  have hRb := hR.below
  have hRd := hR.drewN
  by_cases h0 : n = 0
  · have He := Lib.hid (checkMvs_none (l := l) (by rw [← HN.out]; exact h0))
    have hq : ((n : Int) == 0) = true := by simpa using h0
    subst h0
    go_enter Tryz.func95, Tryz.ntmps95
    go_wp2_with fail
    go_ret
    exact ⟨ret_int He.out.symm, hRb _ hR1⟩
  by_cases h8 : 4 < n
  · have He := Lib.hid (checkMvs_many (l := l) (by rw [← HN.out]; exact h8))
    have hq : ((n : Int) == 0) = false := by simpa using h0
    clear h0
    go_enter Tryz.func95, Tryz.ntmps95
    go_wp2_with fail
    go_ret
    exact ⟨ret_int He.out.symm, hRb _ hR1⟩
  · have Hbad := Lib.hid (fun i e (hs : scan (mvErr l) i = 0) (hi : i < n) (he : mvErr l i = e) (hne : e ≠ 0) => checkMvs_bad (by rw [← HN.out]; omega) (by rw [← HN.out]; omega) hs (by rw [← HN.out]; exact hi) he hne)
    have Hok := Lib.hid (fun (hs : scan (mvErr l) n = 0) => checkMvs_ok (l := l) (by rw [← HN.out]; omega) (by rw [← HN.out]; omega) (by rw [← HN.out]; exact hs))
    have hq : ((n : Int) == 0) = false := by simpa using h0
    clear h0
    go_enter Tryz.func95, Tryz.ntmps95
    go_wp2_with fail
    go_loopw [3] (fun i wr => ∃ k : Nat, k ≤ n ∧ i = .int .i64 k ∧ Hid (scan (mvErr l) k = 0) ∧ In R wr) (fun i _ => n - (intOf i).toNat)
    case atStart => exact ⟨0, by omega, rfl, rfl, hR1⟩
    case round =>
      obtain ⟨k, hk, rfl, Hs, hRw⟩ := hrel
      clear hR1
      obtain ⟨wo, rfl⟩ : ∃ wo : World, wo = wr := ⟨_, rfl⟩
      by_cases hlt : k < n
      · obtain ⟨b, off, rfl, hb, k0, k1, k2⟩ := h4 (by omega)
        have x0 := k0 k wo hlt (hRb _ hRw)
        have x1 := k1 k wo hlt (hRb _ hRw)
        have x2 := k2 k wo hlt (hRb _ hRw)
        have Hk0 := Lib.hid k0
        have Hnm := H5.out k hlt
        have Hre := Lib.hid (show mvErr l k = if nameErr (mv l k).name ≠ 0 then nameErr (mv l k).name else if within (mv l k).old 0 99 = false ∨ within (mv l k).new 0 99 = false then 3 else if (mv l k).old = 0 ∧ (mv l k).new = 0 then 1 else if dupB l k = true then 6 else 0 from rfl)
        have Hdn := Lib.hid (dup_none (l := l) (i := k))
        have Hd1 := Lib.hid (fun j => dup_one (l := l) (i := k) (k := j))
        clear h4 k0 k1 k2
        have hi1 : (0 : Int) ≤ (k : Int) := by omega
        have hi2 : (k : Int) < (n : Int) := by omega
        have Hna := Lib.hid (fun x => checkName_any (mv l k).name x Hnm.2.2)
        clear Hnm
        by_cases hz : nameErr (mv l k).name = 0
        · rw [hz] at Hna
          rw [if_neg (by simp [hz])] at Hre
          clear hz
          cases q1 : within (mv l k).old 0 99
          · have HE := Lib.hid (Hbad.out k 3 Hs.out hlt (by rw [Hre.out, if_pos (.inl q1)]) (by decide))
            go_wp2_with (first | (go_at_call 155; refine (Hna.out _).mono ?_; rintro e w' ⟨rfl, rfl⟩) | (go_at_call 129; refine (between_any _ _ _ _).mono ?_; rintro e w' ⟨rfl, rfl⟩))
            go_ret
            exact ⟨ret_int HE.out.symm, hRb _ hRw⟩
          · cases q2 : within (mv l k).new 0 99
            · have HE := Lib.hid (Hbad.out k 3 Hs.out hlt (by rw [Hre.out, if_pos (.inr q2)]) (by decide))
              go_wp2_with (first | (go_at_call 155; refine (Hna.out _).mono ?_; rintro e w' ⟨rfl, rfl⟩) | (go_at_call 129; refine (between_any _ _ _ _).mono ?_; rintro e w' ⟨rfl, rfl⟩))
              go_ret
              exact ⟨ret_int HE.out.symm, hRb _ hRw⟩
            · have hno : ¬ (within (mv l k).old 0 99 = false ∨ within (mv l k).new 0 99 = false) := by simp [q1, q2]
              rw [if_neg hno] at Hre
              clear hno
              by_cases hm : (mv l k).old = 0 ∧ (mv l k).new = 0
              · have HE := Lib.hid (Hbad.out k 1 Hs.out hlt (by rw [Hre.out, if_pos hm]) (by decide))
                have q3 : ((mv l k).old == 0) = true := by simpa using hm.1
                have q4 : ((mv l k).new == 0) = true := by simpa using hm.2
                clear hm
                go_wp2_with (first | (go_at_call 155; refine (Hna.out _).mono ?_; rintro e w' ⟨rfl, rfl⟩) | (go_at_call 129; refine (between_any _ _ _ _).mono ?_; rintro e w' ⟨rfl, rfl⟩))
                go_ret
                exact ⟨ret_int HE.out.symm, hRb _ hRw⟩
              · rw [if_neg hm] at Hre
                have hm3 : ((mv l k).old == 0) = false ∨ (((mv l k).old == 0) = true ∧ ((mv l k).new == 0) = false) := by
                  by_cases h : (mv l k).old = 0
                  · exact .inr ⟨by simpa using h, by simpa using fun h2 => hm ⟨h, h2⟩⟩
                  · exact .inl (by simpa using h)
                clear hm
                rcases hm3 with q3 | ⟨q3, q4⟩
                all_goals
                  go_wp2_with (first | (go_at_call 155; refine (Hna.out _).mono ?_; rintro e w' ⟨rfl, rfl⟩) | (go_at_call 129; refine (between_any _ _ _ _).mono ?_; rintro e w' ⟨rfl, rfl⟩))
                  clear x1 x2
                  go_loopw [5] (fun i wr => ∃ j : Nat, j ≤ k ∧ i = .int .i64 j ∧ Hid (∀ i, i < j → ((mv l i).name.toList == (mv l k).name.toList) = false) ∧ In R wr) (fun i _ => k - (intOf i).toNat)
                  case atStart => exact ⟨0, by omega, rfl, fun i hi => absurd hi (by omega), hRw⟩
                  case round =>
                    obtain ⟨j, hj, rfl, Hj, hRu⟩ := hrel
                    by_cases hlt3 : j < k
                    · have y0 := fun x hx => Hk0.out j x (by omega) (hRb x hx)
                      have z0 := fun x hx => Hk0.out k x hlt (hRb x hx)
                      have hi3 : (0 : Int) ≤ (j : Int) := by omega
                      have hi4 : (j : Int) < (n : Int) := by omega
                      clear hRw x0
                      cases hq2 : ((mv l j).name.toList == (mv l k).name.toList)
                      · have He := Lib.hid hq2
                        go_wp2_with fail
                        go_quiet (fail)
                        have hRu2 := hRd _ nq hRu
                        go_wp2_with fail
                        go_roundw
                        case rel => exact ⟨j + 1, by omega, by go_num, all_next Hj.out He.out, hRu2⟩
                        case measure => simp [intOf]; omega
                      · have HE := Lib.hid (Hbad.out k 6 Hs.out hlt (by rw [Hre.out, if_pos (Hd1.out j hlt3 hq2)]) (by decide))
                        go_wp2_with fail
                        go_quiet (fail)
                        have hRu2 := hRd _ nq hRu
                        go_wp2_with fail
                        go_ret
                        exact ⟨ret_int HE.out.symm, hRb _ hRu2⟩
                    · obtain rfl : j = k := by omega
                      have HN2 := Lib.hid (scan_next Hs.out (show mvErr l j = 0 by rw [Hre.out, Hdn.out Hj.out]; simp))
                      go_wp2_with fail
                      go_roundw
                      case rel => exact ⟨j + 1, by omega, by go_num, HN2.out, hRu⟩
                      case measure => simp [intOf]; omega
        · have HE := Lib.hid (Hbad.out k _ Hs.out hlt (by rw [Hre.out, if_pos hz]) hz)
          have hz' : (nameErr (mv l k).name != 0) = true := by simpa using hz
          clear hz
          go_wp2_with (go_at_call 155; refine (Hna.out _).mono ?_; rintro e w' ⟨rfl, rfl⟩)
          go_ret
          exact ⟨ret_int HE.out.symm, hRb _ hRw⟩
      · obtain rfl : k = n := by omega
        have HE := Lib.hid (Hok.out Hs.out)
        go_wp2_with fail
        go_ret
        exact ⟨ret_int HE.out.symm, hRb _ hRw⟩
end Go.Proofs.YtdhoodloklgokaaGreatDoor
