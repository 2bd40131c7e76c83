
/- Walks: updates: what is wrong with them, the program's Check and the reference's CheckUpdates. -/
import Derived.Test.YtjdgpgfiomnjkaaGreatDoorQ7
import Derived.Deep.DeepCutAuto
import Derived.Shelf.Strings.Builder1
import Derived.Shelf.Strings.Builder2
import Derived.Shelf.Strings.OnBuilder
import Derived.Shelf.Small.Bits
import Derived.Shelf.Small.Strs
import Derived.Shelf.Small.Wraps
import Derived.Shelf.Strconv.Itoa0
import Derived.Shelf.Strconv.Itoa1
import Derived.Shelf.LaysM
import Derived.Shelf.Strconv.Itoa2
import Derived.Shelf.Strconv.Itoa3
import Derived.Shelf.Sort.Plain
import Derived.Shelf.Strings.Prefix
import Derived.Shelf.Slices.Equal
import Derived.Ground.Names2Prog
import Derived.Shelf.Slices.Clone
import Derived.Shelf.Slices.CompactI
import Derived.Shelf.Slices.SearchI
import Derived.Shelf.Slices.Cells
import Derived.Shelf.Slices.In.SortNone
import Derived.Shelf.Slices.Empties2
import Derived.Test.YtjdgpgfiomnjkaaGreatDoorProg
import Derived.Test.YtjdgpgfiomnjkaaGreatDoorQ10
import Derived.Test.YtjdgpgfiomnjkaaGreatDoorQ6
import Derived.Deep.RegionHeld3
namespace Go.Proofs.YtjdgpgfiomnjkaaGreatDoor
open Go.RowKit
set_option linter.unusedVariables false
set_option linter.unusedSimpArgs false
set_option linter.unusedSectionVars false
variable [Ghost]
theorem updId_any (n : Int) (w : World) : Calls Tryz.prog 172 #[.int .i64 n] w fun e w' => e = .returned (.bool (within n 0 99)) ∧ w = w' := by
 go_enter Tryz.func172, Tryz.ntmps172
 go_wp2
 all_goals go_ret
 all_goals (refine ⟨?_, rfl⟩; simp [within, *])
 omega
def idxPU (p : Mv → Bool) (l : List Mv) : Int := match l.findIdx? p with | some i => (i : Int) | none => -1
theorem idxPU_hit {l : List Mv} {p : Mv → Bool} {k : Nat} (h : ∀ j, j < k → p (mv l j) = false) (hk : k < l.length) (he : p (mv l k) = true) : idxPU p l = k := by
 unfold idxPU
 have : l.findIdx? p = some k := by
  rw [List.findIdx?_eq_some_iff_getElem]
  refine ⟨hk, by rw [← mv_lt hk]; exact he, fun j hj => ?_⟩
  have := h j hj
  rw [mv_lt (by omega)] at this
  simp [this]
 rw [this]
theorem idxPU_none {l : List Mv} {p : Mv → Bool} (h : ∀ j, j < l.length → p (mv l j) = false) : idxPU p l = -1 := by
 unfold idxPU
 have : l.findIdx? p = none := by
  rw [List.findIdx?_eq_none_iff]
  intro x hx
  obtain ⟨i, hi, rfl⟩ := List.getElem_of_mem hx
  have := h i hi
  rwa [mv_lt hi] at this
 rw [this]
theorem idxPU_cases (p : Mv → Bool) (l : List Mv) : (idxPU p l = -1 ∧ ∀ j, j < l.length → p (mv l j) = false) ∨ ∃ k, k < l.length ∧ idxPU p l = (k : Int) ∧ p (mv l k) = true := by
 unfold idxPU
 cases h : l.findIdx? p with
 | none =>
  rw [List.findIdx?_eq_none_iff] at h
  exact .inl ⟨rfl, fun j hj => by rw [mv_lt hj]; exact h _ (List.getElem_mem hj)⟩
 | some k =>
  rw [List.findIdx?_eq_some_iff_getElem] at h
  obtain ⟨hk, he, _⟩ := h
  exact .inr ⟨k, hk, rfl, by rw [mv_lt hk]; exact he⟩
def AsksU (g : Nat) (c : Value) (p : Mv → Bool) (w : World) (l : List Mv) : Prop :=
 ∀ (x : World) (i : Nat), i < l.length → Below w.heap.size w x → Calls Tryz.prog g #[.agg #[.string (mv l i).name, .int .i64 (mv l i).old, .int .i64 (mv l i).new], c] x fun e w' => e = .returned (.bool (p (mv l i))) ∧ Below x.heap.size x w'
set_option maxHeartbeats 1000000 in
theorem indexFuncU_any (l : List Mv) (v c : Value) (S : Nat → Prop) (g : Nat) (p : Mv → Bool) (w : World) (h : MvsV S w v l) (eg : ∀ args w, (callFunc g args).run Tryz.prog w = .ok (.enter g args) w) (hp : AsksU g c p w l) :
  Calls Tryz.prog 224 #[v, .func (.func g) #[] #[c]] w fun e w' => e = .returned (.int .i64 (idxPU p l)) ∧ Below w.heap.size w w' := by
 obtain ⟨a, n, cap, HN, rfl, h1, h2, h3, h4⟩ := h.open
 clear h
 obtain ⟨R, hR, hR1, _⟩ := cls_plain w
 have hRb := hR.below
 have hRn := hR.next
 have Hp := Lib.hid (fun x k (hk : k < n) hx => hp x k (by rw [← HN.out]; exact hk) hx); clear hp
 have Hh := Lib.hid (fun k h1 hk he => idxPU_hit (l := l) (p := p) (k := k) h1 (by rw [← HN.out]; exact hk) he)
 have Hn := Lib.hid (fun h1 => idxPU_none (l := l) (p := p) (by rw [← HN.out]; exact h1))
 go_enter Tryz.func224, Tryz.ntmps224
 go_wp2_with fail
 go_loopw [8] (fun i wr => ∃ k : Nat, k ≤ n ∧ i = .int .i64 k ∧ Hid (∀ j, j < k → p (mv l j) = false) ∧ In R wr) (fun i _ => n - (intOf i).toNat)
 case atStart => exact ⟨0, by omega, rfl, fun j hj => absurd hj (by omega), hR1⟩
 case round =>
  obtain ⟨k, hk, rfl, Hs, hRw⟩ := hrel
  clear hR1
  by_cases hlt : k < n
  ·obtain ⟨b, off, rfl, hb, k0, k1, k2⟩ := h4 (by omega)
   have x0 := k0 k wr hlt (hRb _ hRw)
   have x1 := k1 k wr hlt (hRb _ hRw)
   have x2 := k2 k wr hlt (hRb _ hRw)
   clear h4 k0 k1 k2
   cases hq : p (mv l k)
   ·have He := Lib.hid hq
    go_wp2_with fail
    refine (Hp.out _ k hlt (hRb _ hRw)).mono ?_
    rintro e w' ⟨rfl, hb2⟩
    rw [hq]
    have hR2 := hRn _ _ hRw hb2
    go_wp2_with fail
    go_roundw
    case rel => exact ⟨k + 1, by omega, by go_num, all_next Hs.out He.out, hR2⟩
    case measure => simp [intOf]; omega
   ·have HK := Lib.hid (Hh.out k Hs.out hlt hq)
    go_wp2_with fail
    refine (Hp.out _ k hlt (hRb _ hRw)).mono ?_
    rintro e w' ⟨rfl, hb2⟩
    rw [hq]
    have hR2 := hRn _ _ hRw hb2
    go_wp2_with fail
    go_ret
    exact ⟨ret_int HK.out.symm, hRb _ hR2⟩
  ·obtain rfl : k = n := by omega
   have HK := Lib.hid (Hn.out Hs.out)
   go_wp2_with fail
   go_ret
   exact ⟨ret_int HK.out.symm, hRb _ hRw⟩
set_option maxHeartbeats 400000 in
theorem containsFuncU_any (l : List Mv) (v c : Value) (S : Nat → Prop) (g : Nat) (p : Mv → Bool) (w : World) (h : MvsV S w v l) (eg : ∀ args w, (callFunc g args).run Tryz.prog w = .ok (.enter g args) w) (hp : AsksU g c p w l) :
  Calls Tryz.prog 173 #[v, .func (.func g) #[] #[c]] w fun e w' => e = .returned (.bool (l.any p)) ∧ Below w.heap.size w w' := by
 obtain ⟨q, rfl⟩ := h.shape
 have Hi := Lib.hid (indexFuncU_any l _ c S g p w h eg hp)
 rcases idxPU_cases p l with ⟨h0, h1⟩ | ⟨k, hk, h0, h1⟩
 ·have Ha := Lib.hid (show l.any p = false by
   rw [List.any_eq_false]
   intro x hx
   obtain ⟨i, hi, rfl⟩ := List.getElem_of_mem hx
   have := h1 i hi
   rw [mv_lt hi] at this
   simp [this])
  clear h1 hp
  go_enter Tryz.func173, Tryz.ntmps173
  go_wp2_with fail
  refine Hi.out.mono ?_
  rintro e w' ⟨rfl, hb⟩
  rw [h0]
  go_wp2_with fail
  go_ret
  exact ⟨by rw [Ha.out]; rfl, hb⟩
 ·have Ha := Lib.hid (show l.any p = true by
   rw [List.any_eq_true]
   exact ⟨mv l k, by rw [mv_lt hk]; exact List.getElem_mem hk, h1⟩)
  have hd : decide ((0 : Int) ≤ (k : Int)) = true := by simp
  clear h1 hp
  go_enter Tryz.func173, Tryz.ntmps173
  go_wp2_with fail
  refine Hi.out.mono ?_
  rintro e w' ⟨rfl, hb⟩
  rw [h0]
  go_wp2_with fail
  go_ret
  exact ⟨by rw [Ha.out]; first | rfl | simp, hb⟩
set_option maxHeartbeats 400000 in
theorem updCheck1_any (x u : Mv) (a : Addr) (w : World) (ha : a.spot = none) (hc : w.cell? a = some (.string u.name)) :
  Calls Tryz.prog 174 #[.agg #[.string x.name, .int .i64 x.old, .int .i64 x.new], .pointer (some a)] w fun e w' => e = .returned (.bool (x.name.toList == u.name.toList)) ∧ Below w.heap.size w w' := by
 obtain ⟨b, off, sp⟩ := a
 simp only at ha
 subst ha
 obtain ⟨R, hR, hR1, hx⟩ := cls_box w #[.string x.name, .int .i64 x.old, .int .i64 x.new] 107
 have hx0 := hx 0 _ rfl _ hR1
 have hc2 := below_cell (hR.below _ hR1) hc
 have hbw := hR.below _ hR1
 clear hx hR1 hR hc
 generalize hq : (x.name.toList == u.name.toList) = q
 go_enter Tryz.func174, Tryz.ntmps174
 go_wp2_with fail
 go_ret
 exact ⟨rfl, hbw⟩
theorem MvsV.take {S : Nat → Prop} {w : World} {a : Option Addr} {n cap : Nat} {l : List Mv} (h : MvsV S w (.slice a n cap) l) {i : Nat} (hi : i ≤ l.length) : MvsV S w (.slice a i cap) (l.take i) := by
 obtain ⟨⟨a', cap', hv, h1, h2, h3, h4⟩, h5⟩ := h
 cases hv
 have hl : (l.take i).length = i := by rw [List.length_take]; omega
 have hmv : ∀ j, j < i → mv (l.take i) j = mv l j := fun j hj => by
  unfold mv at_; simp only [List.getD_eq_getElem?_getD, List.getElem?_take, if_pos hj]
 refine ⟨⟨a, cap, by rw [hl], by omega, h2, by omega, fun hn => ?_⟩, fun u hu => h5 u (List.mem_of_mem_take hu)⟩
 obtain ⟨b, off, ha, hS, hc⟩ := h4 (by omega)
 exact ⟨b, off, ha, ⟨hS.1, hS.2.sub (Nat.le_refl _) (by rw [hl]; omega)⟩, fun j hj q u hu => by simp only [hmv j (by omega)] at hu; exact hc j (by omega) q u hu⟩
theorem dup_take {l : List Mv} {i : Nat} (hi : i ≤ l.length) : ((l.take i).any fun x => x.name.toList == (mv l i).name.toList) = dupB l i := by
 unfold dupB
 rw [Bool.eq_iff_iff, List.any_eq_true, List.any_eq_true]
 constructor
 ·rintro ⟨x, hx, e⟩
  obtain ⟨j, hj, rfl⟩ := List.getElem_of_mem hx
  have hj' : j < i := by simp at hj; omega
  exact ⟨j, List.mem_range.2 hj', by rw [mv_lt (show j < l.length by omega)]; simpa using e⟩
 ·rintro ⟨k, hk, e⟩
  have hk' := List.mem_range.1 hk
  exact ⟨mv l k, by rw [mv_lt (show k < l.length by omega)]; exact List.mem_take_iff_getElem.2 ⟨k, by omega, rfl⟩, e⟩
set_option maxRecDepth 100000 in
set_option maxHeartbeats 4000000 in
theorem updCheck_any (l : List Mv) (v : Value) (S : Nat → Prop) (w : World) (h : MvsV S w v l) :
  Calls Tryz.prog 120 #[v] w fun e w' => e = .returned (.int .i64 (checkMvs l)) ∧ Below w.heap.size w w' := by
 have h' := h
 obtain ⟨a, n, cap, HN, rfl, h1, h2, h3, h4⟩ := h.open
 have H5 := Lib.hid (fun i (hi : i < n) => (h.each (i := i) (by rw [← HN.out]; exact hi)))
 clear h
 obtain ⟨R, hR, hR1, _⟩ := cls_plain w
 have hRb := hR.below
 have hRn := hR.next
 by_cases h0 : n = 0
 ·have He := Lib.hid (checkMvs_none (l := l) (by rw [← HN.out]; exact h0))
  have hq : ((n : Int) == 0) = true := by simpa using h0
  subst h0
  go_enter Tryz.func120, Tryz.ntmps120
  go_wp2_with fail
  go_ret
  exact ⟨ret_int He.out.symm, hRb _ hR1⟩
 by_cases h8 : 4 < n
 ·have He := Lib.hid (checkMvs_many (l := l) (by rw [← HN.out]; exact h8))
  have hq : ((n : Int) == 0) = false := by simpa using h0
  clear h0
  go_enter Tryz.func120, Tryz.ntmps120
  go_wp2_with fail
  go_ret
  exact ⟨ret_int He.out.symm, hRb _ hR1⟩
 ·have Hbad := Lib.hid (fun i e (hs : scan (mvErr l) i = 0) (hi : i < n) (he : mvErr l i = e) (hne : e ≠ 0) => checkMvs_bad (by rw [← HN.out]; omega) (by rw [← HN.out]; omega) hs (by rw [← HN.out]; exact hi) he hne)
  have Hok := Lib.hid (fun (hs : scan (mvErr l) n = 0) => checkMvs_ok (l := l) (by rw [← HN.out]; omega) (by rw [← HN.out]; omega) (by rw [← HN.out]; exact hs))
  have hq : ((n : Int) == 0) = false := by simpa using h0
  clear h0
  go_enter Tryz.func120, Tryz.ntmps120
  go_wp2_with fail
  go_loopw [17] (fun i wr => ∃ k : Nat, k ≤ n ∧ i = .int .i64 k ∧ Hid (scan (mvErr l) k = 0) ∧ In R wr) (fun i _ => n - (intOf i).toNat)
  case atStart => exact ⟨0, by omega, rfl, rfl, hR1⟩
  case round =>
   obtain ⟨k, hk, rfl, Hs, hRw⟩ := hrel
   clear hR1
   by_cases hlt : k < n
   ·obtain ⟨b, off, rfl, hb, k0, k1, k2⟩ := h4 (by omega)
    have x0 := k0 k wr hlt (hRb _ hRw)
    have x1 := k1 k wr hlt (hRb _ hRw)
    have x2 := k2 k wr hlt (hRb _ hRw)
    have Hnm := H5.out k hlt
    have Hre := Lib.hid (show mvErr l k = if nameErr (mv l k).name ≠ 0 then nameErr (mv l k).name else if within (mv l k).old 0 99 = false ∨ within (mv l k).new 0 99 = false then 3 else if (mv l k).old = 0 ∧ (mv l k).new = 0 then 1 else if dupB l k = true then 6 else 0 from rfl)
    clear h4 k0 k1 k2
    obtain ⟨Q, hQ, hQ1, hy⟩ := cls_box wr #[.string (mv l k).name, .int .i64 (mv l k).old, .int .i64 (mv l k).new] 107
    have y0 := hy 0 _ rfl _ hQ1
    have y1 := hy 1 _ rfl _ hQ1
    have y2 := hy 2 _ rfl _ hQ1
    have Hy := Lib.hid (hy 0 _ rfl)
    clear hy
    have hQb : ∀ x, In Q x → Below w.heap.size w x := fun x hx => below_next (hRb _ hRw) (hQ.below x hx)
    have hQn := hQ.next
    have Hap := Lib.hid (show AsksU 174 (.pointer (some ⟨wr.heap.size, 0, none⟩)) (fun x => x.name.toList == (mv l k).name.toList) (wr.alloc (.cells #[.string (mv l k).name, .int .i64 (mv l k).old, .int .i64 (mv l k).new] 107)) (l.take k) from
     fun x i hi hx => updCheck1_any _ (mv l k) ⟨wr.heap.size, 0, none⟩ x rfl (Hy.out x (hQn _ _ hQ1 hx)))
    have Hdt := Lib.hid (dup_take (l := l) (i := k) (by have := HN.out; omega))
    have Hcf := Lib.hid (containsFuncU_any (l.take k) _ _ S _ _ _ ((h'.take (i := k) (by have := HN.out; omega)).below (hQb _ hQ1)) (fun _ _ => rfl) Hap.out)
    rw [Hdt.out] at Hcf
    have hi1 : (0 : Int) ≤ (k : Int) := by omega
    have hi2 : (k : Int) < (n : Int) := by omega
    have hi3 : (k : Int) ≤ (cap : Int) := by omega
    have Hna := Lib.hid (fun x => name_any (mv l k).name x Hnm.2.2)
    clear Hnm Hap Hy
    by_cases hz : nameErr (mv l k).name = 0
    ·rw [hz] at Hna
     rw [if_neg (by simp [hz])] at Hre
     clear hz
     cases q1 : within (mv l k).old 0 99
     ·have HE := Lib.hid (Hbad.out k 3 Hs.out hlt (by rw [Hre.out, if_pos (.inl q1)]) (by decide))
      go_wp2_with (first | (go_at_call 171; refine (Hna.out _).mono ?_; rintro e w' ⟨rfl, rfl⟩) | (go_at_call 172; refine (updId_any _ _).mono ?_; rintro e w' ⟨rfl, rfl⟩))
      go_ret
      exact ⟨ret_int HE.out.symm, hQb _ hQ1⟩
     ·cases q2 : within (mv l k).new 0 99
      ·have HE := Lib.hid (Hbad.out k 3 Hs.out hlt (by rw [Hre.out, if_pos (.inr q2)]) (by decide))
       go_wp2_with (first | (go_at_call 171; refine (Hna.out _).mono ?_; rintro e w' ⟨rfl, rfl⟩) | (go_at_call 172; refine (updId_any _ _).mono ?_; rintro e w' ⟨rfl, rfl⟩))
       go_ret
       exact ⟨ret_int HE.out.symm, hQb _ hQ1⟩
      ·have hno : ¬ (within (mv l k).old 0 99 = false ∨ within (mv l k).new 0 99 = false) := by simp [q1, q2]
       rw [if_neg hno] at Hre
       clear hno
       by_cases hm : (mv l k).old = 0 ∧ (mv l k).new = 0
       ·have HE := Lib.hid (Hbad.out k 1 Hs.out hlt (by rw [Hre.out, if_pos hm]) (by decide))
        have q3 : ((mv l k).old == 0) = true := by simpa using hm.1
        have q4 : ((mv l k).new == 0) = true := by simpa using hm.2
        clear hm
        go_wp2_with (first | (go_at_call 171; refine (Hna.out _).mono ?_; rintro e w' ⟨rfl, rfl⟩) | (go_at_call 172; refine (updId_any _ _).mono ?_; rintro e w' ⟨rfl, rfl⟩))
        go_ret
        exact ⟨ret_int HE.out.symm, hQb _ hQ1⟩
       ·rw [if_neg hm] at Hre
        have hm3 : ((mv l k).old == 0) = false ∨ (((mv l k).old == 0) = true ∧ ((mv l k).new == 0) = false) := by
         by_cases h : (mv l k).old = 0
         ·exact .inr ⟨by simpa using h, by simpa using fun h2 => hm ⟨h, h2⟩⟩
         ·exact .inl (by simpa using h)
        clear hm
        cases hd : dupB l k
        ·rw [hd] at Hcf
         have HN2 := Lib.hid (scan_next Hs.out (show mvErr l k = 0 by rw [Hre.out, hd]; simp))
         rcases hm3 with q3 | ⟨q3, q4⟩
         all_goals
          go_wp2_with (first | (go_at_call 171; refine (Hna.out _).mono ?_; rintro e w' ⟨rfl, rfl⟩) | (go_at_call 172; refine (updId_any _ _).mono ?_; rintro e w' ⟨rfl, rfl⟩))
          refine Hcf.out.mono ?_
          rintro e w4 ⟨rfl, hb4⟩
          have hQ4 := hQn _ _ hQ1 hb4
          clear hb4
          go_wp2_with fail
          go_roundw
          case rel => exact ⟨k + 1, by omega, by go_num, HN2.out, hRn _ _ hRw (hQ.below _ hQ4)⟩
          case measure => simp [intOf]; omega
        ·rw [hd] at Hcf
         have HE := Lib.hid (Hbad.out k 6 Hs.out hlt (by rw [Hre.out, if_pos hd]) (by decide))
         rcases hm3 with q3 | ⟨q3, q4⟩
         all_goals
          go_wp2_with (first | (go_at_call 171; refine (Hna.out _).mono ?_; rintro e w' ⟨rfl, rfl⟩) | (go_at_call 172; refine (updId_any _ _).mono ?_; rintro e w' ⟨rfl, rfl⟩))
          refine Hcf.out.mono ?_
          rintro e w4 ⟨rfl, hb4⟩
          have hQ4 := hQn _ _ hQ1 hb4
          clear hb4
          go_wp2_with fail
          go_ret
          exact ⟨ret_int HE.out.symm, hQb _ hQ4⟩
    ·have HE := Lib.hid (Hbad.out k _ Hs.out hlt (by rw [Hre.out, if_pos hz]) hz)
     have hz' : (nameErr (mv l k).name != 0) = true := by simpa using hz
     clear hz
     go_wp2_with (go_at_call 171; refine (Hna.out _).mono ?_; rintro e w' ⟨rfl, rfl⟩)
     go_ret
     exact ⟨ret_int HE.out.symm, hQb _ hQ1⟩
   ·obtain rfl : k = n := by omega
    have HE := Lib.hid (Hok.out Hs.out)
    go_wp2_with fail
    go_ret
    exact ⟨ret_int HE.out.symm, hRb _ hRw⟩
theorem dup_none {l : List Mv} {i : Nat} (h : ∀ k, k < i → ((mv l k).name.toList == (mv l i).name.toList) = false) : dupB l i = false := by
 unfold dupB
 rw [List.any_eq_false]
 intro k hk
 rw [h k (List.mem_range.1 hk)]; simp
theorem dup_one {l : List Mv} {i k : Nat} (hk : k < i) (h : ((mv l k).name.toList == (mv l i).name.toList) = true) : dupB l i = true := by
 unfold dupB
 rw [List.any_eq_true]
 exact ⟨k, List.mem_range.2 hk, h⟩
set_option maxRecDepth 100000 in
set_option maxHeartbeats 4000000 in
theorem checkUpdates_any (l : List Mv) (v : Value) (S : Nat → Prop) (w : World) (h : MvsV S w v l) :
  Calls Tryz.prog 72 #[v] w fun e w' => e = .returned (.int .i64 (checkMvs l)) ∧ Below w.heap.size w w' := by
 have h' := h
 obtain ⟨a, n, cap, HN, rfl, h1, h2, h3, h4⟩ := h.open
 have H5 := Lib.hid (fun i (hi : i < n) => (h.each (i := i) (by rw [← HN.out]; exact hi)))
 clear h
 obtain ⟨R, hR, hR1, _⟩ := cls_plain w
 have hRb := hR.below
 have hRd := hR.drewN
 by_cases h0 : n = 0
 ·have He := Lib.hid (checkMvs_none (l := l) (by rw [← HN.out]; exact h0))
  have hq : ((n : Int) == 0) = true := by simpa using h0
  subst h0
  go_enter Tryz.func72, Tryz.ntmps72
  go_wp2_with fail
  go_ret
  exact ⟨ret_int He.out.symm, hRb _ hR1⟩
 by_cases h8 : 4 < n
 ·have He := Lib.hid (checkMvs_many (l := l) (by rw [← HN.out]; exact h8))
  have hq : ((n : Int) == 0) = false := by simpa using h0
  clear h0
  go_enter Tryz.func72, Tryz.ntmps72
  go_wp2_with fail
  go_ret
  exact ⟨ret_int He.out.symm, hRb _ hR1⟩
 ·have Hbad := Lib.hid (fun i e (hs : scan (mvErr l) i = 0) (hi : i < n) (he : mvErr l i = e) (hne : e ≠ 0) => checkMvs_bad (by rw [← HN.out]; omega) (by rw [← HN.out]; omega) hs (by rw [← HN.out]; exact hi) he hne)
  have Hok := Lib.hid (fun (hs : scan (mvErr l) n = 0) => checkMvs_ok (l := l) (by rw [← HN.out]; omega) (by rw [← HN.out]; omega) (by rw [← HN.out]; exact hs))
  have hq : ((n : Int) == 0) = false := by simpa using h0
  clear h0
  go_enter Tryz.func72, Tryz.ntmps72
  go_wp2_with fail
  go_loopw [3] (fun i wr => ∃ k : Nat, k ≤ n ∧ i = .int .i64 k ∧ Hid (scan (mvErr l) k = 0) ∧ In R wr) (fun i _ => n - (intOf i).toNat)
  case atStart => exact ⟨0, by omega, rfl, rfl, hR1⟩
  case round =>
   obtain ⟨k, hk, rfl, Hs, hRw⟩ := hrel
   clear hR1
   obtain ⟨wo, rfl⟩ : ∃ wo : World, wo = wr := ⟨_, rfl⟩
   by_cases hlt : k < n
   ·obtain ⟨b, off, rfl, hb, k0, k1, k2⟩ := h4 (by omega)
    have x0 := k0 k wo hlt (hRb _ hRw)
    have x1 := k1 k wo hlt (hRb _ hRw)
    have x2 := k2 k wo hlt (hRb _ hRw)
    have Hk0 := Lib.hid k0
    have Hnm := H5.out k hlt
    have Hre := Lib.hid (show mvErr l k = if nameErr (mv l k).name ≠ 0 then nameErr (mv l k).name else if within (mv l k).old 0 99 = false ∨ within (mv l k).new 0 99 = false then 3 else if (mv l k).old = 0 ∧ (mv l k).new = 0 then 1 else if dupB l k = true then 6 else 0 from rfl)
    have Hdn := Lib.hid (dup_none (l := l) (i := k))
    have Hd1 := Lib.hid (fun j => dup_one (l := l) (i := k) (k := j))
    clear h4 k0 k1 k2
    have hi1 : (0 : Int) ≤ (k : Int) := by omega
    have hi2 : (k : Int) < (n : Int) := by omega
    have Hna := Lib.hid (fun x => checkName_any (mv l k).name x Hnm.2.2)
    clear Hnm
    by_cases hz : nameErr (mv l k).name = 0
    ·rw [hz] at Hna
     rw [if_neg (by simp [hz])] at Hre
     clear hz
     cases q1 : within (mv l k).old 0 99
     ·have HE := Lib.hid (Hbad.out k 3 Hs.out hlt (by rw [Hre.out, if_pos (.inl q1)]) (by decide))
      go_wp2_with (first | (go_at_call 133; refine (Hna.out _).mono ?_; rintro e w' ⟨rfl, rfl⟩) | (go_at_call 105; refine (between_any _ _ _ _).mono ?_; rintro e w' ⟨rfl, rfl⟩))
      go_ret
      exact ⟨ret_int HE.out.symm, hRb _ hRw⟩
     ·cases q2 : within (mv l k).new 0 99
      ·have HE := Lib.hid (Hbad.out k 3 Hs.out hlt (by rw [Hre.out, if_pos (.inr q2)]) (by decide))
       go_wp2_with (first | (go_at_call 133; refine (Hna.out _).mono ?_; rintro e w' ⟨rfl, rfl⟩) | (go_at_call 105; refine (between_any _ _ _ _).mono ?_; rintro e w' ⟨rfl, rfl⟩))
       go_ret
       exact ⟨ret_int HE.out.symm, hRb _ hRw⟩
      ·have hno : ¬ (within (mv l k).old 0 99 = false ∨ within (mv l k).new 0 99 = false) := by simp [q1, q2]
       rw [if_neg hno] at Hre
       clear hno
       by_cases hm : (mv l k).old = 0 ∧ (mv l k).new = 0
       ·have HE := Lib.hid (Hbad.out k 1 Hs.out hlt (by rw [Hre.out, if_pos hm]) (by decide))
        have q3 : ((mv l k).old == 0) = true := by simpa using hm.1
        have q4 : ((mv l k).new == 0) = true := by simpa using hm.2
        clear hm
        go_wp2_with (first | (go_at_call 133; refine (Hna.out _).mono ?_; rintro e w' ⟨rfl, rfl⟩) | (go_at_call 105; refine (between_any _ _ _ _).mono ?_; rintro e w' ⟨rfl, rfl⟩))
        go_ret
        exact ⟨ret_int HE.out.symm, hRb _ hRw⟩
       ·rw [if_neg hm] at Hre
        have hm3 : ((mv l k).old == 0) = false ∨ (((mv l k).old == 0) = true ∧ ((mv l k).new == 0) = false) := by
         by_cases h : (mv l k).old = 0
         ·exact .inr ⟨by simpa using h, by simpa using fun h2 => hm ⟨h, h2⟩⟩
         ·exact .inl (by simpa using h)
        clear hm
        rcases hm3 with q3 | ⟨q3, q4⟩
        all_goals
         go_wp2_with (first | (go_at_call 133; refine (Hna.out _).mono ?_; rintro e w' ⟨rfl, rfl⟩) | (go_at_call 105; refine (between_any _ _ _ _).mono ?_; rintro e w' ⟨rfl, rfl⟩))
         clear x1 x2
         go_loopw [5] (fun i wr => ∃ j : Nat, j ≤ k ∧ i = .int .i64 j ∧ Hid (∀ i, i < j → ((mv l i).name.toList == (mv l k).name.toList) = false) ∧ In R wr) (fun i _ => k - (intOf i).toNat)
         case atStart => exact ⟨0, by omega, rfl, fun i hi => absurd hi (by omega), hRw⟩
         case round =>
          obtain ⟨j, hj, rfl, Hj, hRu⟩ := hrel
          by_cases hlt3 : j < k
          ·have y0 := fun x hx => Hk0.out j x (by omega) (hRb x hx)
           have z0 := fun x hx => Hk0.out k x hlt (hRb x hx)
           have hi3 : (0 : Int) ≤ (j : Int) := by omega
           have hi4 : (j : Int) < (n : Int) := by omega
           clear hRw x0
           cases hq2 : ((mv l j).name.toList == (mv l k).name.toList)
           ·have He := Lib.hid hq2
            go_wp2_with fail
            go_quiet (fail)
            have hRu2 := hRd _ nq hRu
            go_wp2_with fail
            go_roundw
            case rel => exact ⟨j + 1, by omega, by go_num, all_next Hj.out He.out, hRu2⟩
            case measure => simp [intOf]; omega
           ·have HE := Lib.hid (Hbad.out k 6 Hs.out hlt (by rw [Hre.out, if_pos (Hd1.out j hlt3 hq2)]) (by decide))
            go_wp2_with fail
            go_quiet (fail)
            have hRu2 := hRd _ nq hRu
            go_wp2_with fail
            go_ret
            exact ⟨ret_int HE.out.symm, hRb _ hRu2⟩
          ·obtain rfl : j = k := by omega
           have HN2 := Lib.hid (scan_next Hs.out (show mvErr l j = 0 by rw [Hre.out, Hdn.out Hj.out]; simp))
           go_wp2_with fail
           go_roundw
           case rel => exact ⟨j + 1, by omega, by go_num, HN2.out, hRu⟩
           case measure => simp [intOf]; omega
    ·have HE := Lib.hid (Hbad.out k _ Hs.out hlt (by rw [Hre.out, if_pos hz]) hz)
     have hz' : (nameErr (mv l k).name != 0) = true := by simpa using hz
     clear hz
     go_wp2_with (go_at_call 133; refine (Hna.out _).mono ?_; rintro e w' ⟨rfl, rfl⟩)
     go_ret
     exact ⟨ret_int HE.out.symm, hRb _ hRw⟩
   ·obtain rfl : k = n := by omega
    have HE := Lib.hid (Hok.out Hs.out)
    go_wp2_with fail
    go_ret
    exact ⟨ret_int HE.out.symm, hRb _ hRw⟩
end Go.Proofs.YtjdgpgfiomnjkaaGreatDoor
namespace Go.Proofs
open Go.Sort Go.RowKit
open Go.RowKit Go.Sort Go.Lib
open Go.RowKit Go.Sort
open Go.RowKit Go.Lib Go.Sort
open Go.RowKit Go.Lib
open Go.RowKit
open Go.Lib
open Go.Shelf
def Tryz.lays156_ren : Go.Shelf.Ren := ⟨fun | 156 => 215 | 165 => 247 | 166 => 248 | 169 => 249 | 240 => 264 | 241 => 265 | 276 => 274 | 277 => 275 | n => n, fun | 31 => 113 | 9 => 9 | 3 => 3 | 4 => 4 | 0 => 0 | 20 => 20 | 72 => 263 | 76 => 267 | 70 => 261 | 37 => 138 | 75 => 266 | 127 => 281 | 164 => 288 | 5 => 5 | 80 => 269 | n => n, fun | n => n⟩
theorem Tryz.lays156 : Go.Proofs.Lays.n156 Tryz.prog Tryz.lays156_ren := {
 mixed := by kernel_rfl
 f156 := Tryz.func215.trans (congrArg some (by kernel_rfl))
 f165 := Tryz.func247.trans (congrArg some (by kernel_rfl))
 f166 := Tryz.func248.trans (congrArg some (by kernel_rfl))
 f169 := Tryz.func249.trans (congrArg some (by kernel_rfl))
 f240 := Tryz.func264.trans (congrArg some (by kernel_rfl))
 f241 := Tryz.func265.trans (congrArg some (by kernel_rfl))
 f276 := Tryz.func274.trans (congrArg some (by kernel_rfl))
 f277 := Tryz.func275.trans (congrArg some (by kernel_rfl))
 t0 := Tryz.underlying0
 a0 := Tryz.isAgg0
 z0 := Tryz.sizeOf0
 v0 := Tryz.zeroValue0
 t3 := Tryz.underlying3
 a3 := Tryz.isAgg3
 z3 := Tryz.sizeOf3
 v3 := Tryz.zeroValue3
 t4 := Tryz.underlying4
 a4 := Tryz.isAgg4
 z4 := Tryz.sizeOf4
 v4 := Tryz.zeroValue4
 t9 := Tryz.underlying9
 a9 := Tryz.isAgg9
 z9 := Tryz.sizeOf9
 v9 := Tryz.zeroValue9
 t20 := Tryz.underlying20
 a20 := Tryz.isAgg20
 z20 := Tryz.sizeOf20
 v20 := Tryz.zeroValue20
 t31 := Tryz.underlying113
 a31 := Tryz.isAgg113
 z31 := Tryz.sizeOf113
 v31 := Tryz.zeroValue113
 t37 := Tryz.underlying138
 a37 := Tryz.isAgg138
 z37 := Tryz.sizeOf138
 v37 := Tryz.zeroValue138
 t70 := Tryz.underlying261
 a70 := Tryz.isAgg261
 z70 := Tryz.sizeOf261
 v70 := Tryz.zeroValue261
 t72 := Tryz.underlying263
 a72 := Tryz.isAgg263
 z72 := Tryz.sizeOf263
 v72 := Tryz.zeroValue263
 t75 := Tryz.underlying266
 a75 := Tryz.isAgg266
 z75 := Tryz.sizeOf266
 v75 := Tryz.zeroValue266
 t76 := Tryz.underlying267
 a76 := Tryz.isAgg267
 z76 := Tryz.sizeOf267
 v76 := Tryz.zeroValue267
 t127 := Tryz.underlying281
 a127 := Tryz.isAgg281
 z127 := Tryz.sizeOf281
 v127 := Tryz.zeroValue281
 t164 := Tryz.underlying288
 a164 := Tryz.isAgg288
 z164 := Tryz.sizeOf288
 v164 := Tryz.zeroValue288 }
theorem Tryz.Builder_Extra_156 : Builder.Extra Tryz.prog Tryz.lays156_ren := {
 sizeBuilder := by kernel_rfl
 liesBuilder := by kernel_rfl
 t5 := Tryz.underlying5
 a5 := Tryz.isAgg5
 z5 := Tryz.sizeOf5
 v5 := Tryz.zeroValue5
 infoByte := by kernel_rfl
 cellsByte := by kernel_rfl
 sizeByte := by kernel_rfl
 neB5 := by decide }
theorem Tryz.strings_Join (bk o c : Nat) (xs : List ByteArray) (sep : ByteArray) (w : World) (hcells : ∀ (j : Nat) x, xs[j]? = some x → w.cell? ⟨bk, o + j, none⟩ = some (.string x)) (hbk : bk < w.heap.size) (hN : xs.length ≤ 140737488355328) (hcap : xs.length ≤ c) (hlen : (Lib.join (xs.map (·.data.toList)) sep.data.toList).length ≤ 140737488355328) :
  Calls Tryz.prog 215 #[.slice (some ⟨bk, o, none⟩) xs.length c, .string sep] w fun e w' => e = .returned (.string ⟨(Lib.join (xs.map (·.data.toList)) sep.data.toList).toArray⟩) ∧ Below w.heap.size w w' := Any.strings_Join Tryz.lays156 Tryz.Builder_Extra_156 bk o c xs sep w hcells hbk hN hcap hlen
def Tryz.lays106_ren : Go.Shelf.Ren := ⟨fun | 106 => 128 | 213 => 183 | 265 => 234 | n => n, fun | 9 => 9 | 3 => 3 | n => n, fun | n => n⟩
theorem Tryz.lays106 : Go.Proofs.Lays.n106 Tryz.prog Tryz.lays106_ren := {
 mixed := by kernel_rfl
 f106 := Tryz.func128.trans (congrArg some (by kernel_rfl))
 f213 := Tryz.func183.trans (congrArg some (by kernel_rfl))
 f265 := Tryz.func234.trans (congrArg some (by kernel_rfl))
 t3 := Tryz.underlying3
 a3 := Tryz.isAgg3
 z3 := Tryz.sizeOf3
 v3 := Tryz.zeroValue3
 t9 := Tryz.underlying9
 a9 := Tryz.isAgg9
 z9 := Tryz.sizeOf9
 v9 := Tryz.zeroValue9 }
theorem Tryz.strings_Compare (a b : ByteArray) (w : World) :
  Calls Tryz.prog 128 #[.string a, .string b] w fun e w' => e = .returned (.int .i64 (Lib.compareBytes a.data.toList b.data.toList)) ∧ w' = w := Any.strings_Compare Tryz.lays106 a b w
def Tryz.laysM171_ren : Go.Shelf.Ren := ⟨fun | 171 => 101 | 243 => 166 | 246 => 221 | 283 => 252 | 284 => 253 | 285 => 254 | 286 => 255 | 129 => 210 | 317 => 266 | 318 => 267 | 319 => 268 | 320 => 269 | 337 => 276 | 338 => 277 | n => n, fun | 3 => 3 | 9 => 9 | 2 => 2 | 4 => 4 | 171 => 270 | 0 => 0 | 53 => 231 | 37 => 138 | 5 => 5 | 173 => 272 | 212 => 284 | 51 => 229 | 20 => 20 | 213 => 285 | 46 => 187 | 232 => 291 | 233 => 292 | n => n, fun | 17 => 1 | 18 => 2 | 19 => 3 | n => n⟩
theorem Tryz.laysM171 : Go.Proofs.LaysM.n171 Tryz.prog Tryz.laysM171_ren := {
 mixed := by kernel_rfl
 f129 := Tryz.func210.trans (congrArg some (by kernel_rfl))
 f171 := Tryz.func101.trans (congrArg some (by kernel_rfl))
 f243 := Tryz.func166.trans (congrArg some (by kernel_rfl))
 f246 := Tryz.func221.trans (congrArg some (by kernel_rfl))
 f283 := Tryz.func252.trans (congrArg some (by kernel_rfl))
 f284 := Tryz.func253.trans (congrArg some (by kernel_rfl))
 f285 := Tryz.func254.trans (congrArg some (by kernel_rfl))
 f286 := Tryz.func255.trans (congrArg some (by kernel_rfl))
 f317 := Tryz.func266.trans (congrArg some (by kernel_rfl))
 f318 := Tryz.func267.trans (congrArg some (by kernel_rfl))
 f319 := Tryz.func268.trans (congrArg some (by kernel_rfl))
 f320 := Tryz.func269.trans (congrArg some (by kernel_rfl))
 f337 := Tryz.func276.trans (congrArg some (by kernel_rfl))
 f338 := Tryz.func277.trans (congrArg some (by kernel_rfl))
 t0 := Tryz.underlying0
 a0 := Tryz.isAgg0
 z0 := Tryz.sizeOf0
 v0 := Tryz.zeroValue0
 t2 := Tryz.underlying2
 a2 := Tryz.isAgg2
 z2 := Tryz.sizeOf2
 v2 := Tryz.zeroValue2
 t3 := Tryz.underlying3
 a3 := Tryz.isAgg3
 z3 := Tryz.sizeOf3
 v3 := Tryz.zeroValue3
 t4 := Tryz.underlying4
 a4 := Tryz.isAgg4
 z4 := Tryz.sizeOf4
 v4 := Tryz.zeroValue4
 t5 := Tryz.underlying5
 a5 := Tryz.isAgg5
 z5 := Tryz.sizeOf5
 v5 := Tryz.zeroValue5
 t9 := Tryz.underlying9
 a9 := Tryz.isAgg9
 z9 := Tryz.sizeOf9
 v9 := Tryz.zeroValue9
 t20 := Tryz.underlying20
 a20 := Tryz.isAgg20
 z20 := Tryz.sizeOf20
 v20 := Tryz.zeroValue20
 t37 := Tryz.underlying138
 a37 := Tryz.isAgg138
 z37 := Tryz.sizeOf138
 v37 := Tryz.zeroValue138
 t46 := Tryz.underlying187
 a46 := Tryz.isAgg187
 z46 := Tryz.sizeOf187
 v46 := Tryz.zeroValue187
 t51 := Tryz.underlying229
 a51 := Tryz.isAgg229
 z51 := Tryz.sizeOf229
 v51 := Tryz.zeroValue229
 t53 := Tryz.underlying231
 a53 := Tryz.isAgg231
 z53 := Tryz.sizeOf231
 v53 := Tryz.zeroValue231
 t171 := Tryz.underlying270
 a171 := Tryz.isAgg270
 z171 := Tryz.sizeOf270
 v171 := Tryz.zeroValue270
 t173 := Tryz.underlying272
 a173 := Tryz.isAgg272
 z173 := Tryz.sizeOf272
 v173 := Tryz.zeroValue272
 t212 := Tryz.underlying284
 a212 := Tryz.isAgg284
 z212 := Tryz.sizeOf284
 v212 := Tryz.zeroValue284
 t213 := Tryz.underlying285
 a213 := Tryz.isAgg285
 z213 := Tryz.sizeOf285
 t232 := Tryz.underlying291
 a232 := Tryz.isAgg291
 z232 := Tryz.sizeOf291
 v232 := Tryz.zeroValue291
 t233 := Tryz.underlying292
 a233 := Tryz.isAgg292
 z233 := Tryz.sizeOf292
 v233 := Tryz.zeroValue292
 g17 := by kernel_rfl
 g18 := by kernel_rfl
 g19 := by kernel_rfl
 i0 := by kernel_rfl
 i2 := by kernel_rfl
 i3 := by kernel_rfl
 i4 := by kernel_rfl
 i5 := by kernel_rfl
 i9 := by kernel_rfl
 i20 := by kernel_rfl
 i37 := by kernel_rfl
 i46 := by kernel_rfl
 i51 := by kernel_rfl
 i53 := by kernel_rfl
 i171 := by kernel_rfl
 i173 := by kernel_rfl
 i212 := by kernel_rfl
 i232 := by kernel_rfl
 i233 := by kernel_rfl
 m17 := by kernel_rfl
 m18 := by kernel_rfl
 m19 := by kernel_rfl }
theorem Tryz.strconv_Itoa (n : Int) (h0 : -9223372036854775808 ≤ n) (h1 : n ≤ 9223372036854775807) (w : World) (htab : Lib.TabIs Tryz.prog w "internal/strconv.uint64pow10" .u64 Lib.pow10Tab) :
  Calls Tryz.prog 101 #[.int .i64 n] w fun e w' => e = .returned (.string ⟨(Lib.itoa n).toArray⟩) ∧ ∃ k os, w' = grow (w.drewN k) os := Any.strconv_Itoa Tryz.laysM171 n h0 h1 w htab
def Tryz.lays171_ren : Go.Shelf.Ren := ⟨fun | 171 => 101 | 243 => 166 | 246 => 221 | 283 => 252 | 284 => 253 | 285 => 254 | 286 => 255 | 129 => 210 | 317 => 266 | 318 => 267 | 319 => 268 | 320 => 269 | 337 => 276 | 338 => 277 | n => n, fun | 3 => 3 | 9 => 9 | 2 => 2 | 4 => 4 | 171 => 270 | 0 => 0 | 53 => 231 | 37 => 138 | 5 => 5 | 173 => 272 | 212 => 284 | 51 => 229 | 20 => 20 | 213 => 285 | 46 => 187 | 232 => 291 | 233 => 292 | n => n, fun | 17 => 1 | 18 => 2 | 19 => 3 | n => n⟩
theorem Tryz.lays171 : Go.Proofs.Lays.n171 Tryz.prog Tryz.lays171_ren := {
 mixed := by kernel_rfl
 f129 := Tryz.func210.trans (congrArg some (by kernel_rfl))
 f171 := Tryz.func101.trans (congrArg some (by kernel_rfl))
 f243 := Tryz.func166.trans (congrArg some (by kernel_rfl))
 f246 := Tryz.func221.trans (congrArg some (by kernel_rfl))
 f283 := Tryz.func252.trans (congrArg some (by kernel_rfl))
 f284 := Tryz.func253.trans (congrArg some (by kernel_rfl))
 f285 := Tryz.func254.trans (congrArg some (by kernel_rfl))
 f286 := Tryz.func255.trans (congrArg some (by kernel_rfl))
 f317 := Tryz.func266.trans (congrArg some (by kernel_rfl))
 f318 := Tryz.func267.trans (congrArg some (by kernel_rfl))
 f319 := Tryz.func268.trans (congrArg some (by kernel_rfl))
 f320 := Tryz.func269.trans (congrArg some (by kernel_rfl))
 f337 := Tryz.func276.trans (congrArg some (by kernel_rfl))
 f338 := Tryz.func277.trans (congrArg some (by kernel_rfl))
 t0 := Tryz.underlying0
 a0 := Tryz.isAgg0
 z0 := Tryz.sizeOf0
 v0 := Tryz.zeroValue0
 t2 := Tryz.underlying2
 a2 := Tryz.isAgg2
 z2 := Tryz.sizeOf2
 v2 := Tryz.zeroValue2
 t3 := Tryz.underlying3
 a3 := Tryz.isAgg3
 z3 := Tryz.sizeOf3
 v3 := Tryz.zeroValue3
 t4 := Tryz.underlying4
 a4 := Tryz.isAgg4
 z4 := Tryz.sizeOf4
 v4 := Tryz.zeroValue4
 t5 := Tryz.underlying5
 a5 := Tryz.isAgg5
 z5 := Tryz.sizeOf5
 v5 := Tryz.zeroValue5
 t9 := Tryz.underlying9
 a9 := Tryz.isAgg9
 z9 := Tryz.sizeOf9
 v9 := Tryz.zeroValue9
 t20 := Tryz.underlying20
 a20 := Tryz.isAgg20
 z20 := Tryz.sizeOf20
 v20 := Tryz.zeroValue20
 t37 := Tryz.underlying138
 a37 := Tryz.isAgg138
 z37 := Tryz.sizeOf138
 v37 := Tryz.zeroValue138
 t46 := Tryz.underlying187
 a46 := Tryz.isAgg187
 z46 := Tryz.sizeOf187
 v46 := Tryz.zeroValue187
 t51 := Tryz.underlying229
 a51 := Tryz.isAgg229
 z51 := Tryz.sizeOf229
 v51 := Tryz.zeroValue229
 t53 := Tryz.underlying231
 a53 := Tryz.isAgg231
 z53 := Tryz.sizeOf231
 v53 := Tryz.zeroValue231
 t171 := Tryz.underlying270
 a171 := Tryz.isAgg270
 z171 := Tryz.sizeOf270
 v171 := Tryz.zeroValue270
 t173 := Tryz.underlying272
 a173 := Tryz.isAgg272
 z173 := Tryz.sizeOf272
 v173 := Tryz.zeroValue272
 t212 := Tryz.underlying284
 a212 := Tryz.isAgg284
 z212 := Tryz.sizeOf284
 v212 := Tryz.zeroValue284
 t213 := Tryz.underlying285
 a213 := Tryz.isAgg285
 z213 := Tryz.sizeOf285
 t232 := Tryz.underlying291
 a232 := Tryz.isAgg291
 z232 := Tryz.sizeOf291
 v232 := Tryz.zeroValue291
 t233 := Tryz.underlying292
 a233 := Tryz.isAgg292
 z233 := Tryz.sizeOf292
 v233 := Tryz.zeroValue292
 g17 := by kernel_rfl
 g18 := by kernel_rfl
 g19 := by kernel_rfl }
theorem Tryz.strconv_Itoa_small (i : Nat) (hi : i < 100) (w : World) :
  Calls Tryz.prog 101 #[.int .i64 i] w fun e w' => e = .returned (.string ⟨(Lib.decDigits i).toArray⟩) ∧ w' = w := Any.strconv_Itoa_small Tryz.lays171 i hi w
def Tryz.lays189_ren : Go.Shelf.Ren := ⟨fun | 189 => 93 | 125 => 154 | 257 => 153 | 128 => 209 | 129 => 210 | 294 => 200 | 295 => 201 | 296 => 202 | 297 => 203 | 298 => 204 | 299 => 205 | 216 => 206 | 300 => 207 | 301 => 208 | 328 => 241 | 329 => 242 | 330 => 243 | 331 => 244 | 332 => 245 | 215 => 246 | 343 => 263 | n => n, fun | 28 => 44 | 3 => 3 | 46 => 187 | 0 => 0 | 51 => 229 | 53 => 231 | 4 => 4 | 183 => 223 | 182 => 222 | 131 => 130 | 5 => 5 | 9 => 9 | 218 => 255 | 222 => 259 | 228 => 279 | 229 => 153 | n => n, fun | n => n⟩
theorem Tryz.lays189 : Go.Proofs.Lays.n189 Tryz.prog Tryz.lays189_ren := {
 mixed := by kernel_rfl
 f125 := Tryz.func154.trans (congrArg some (by kernel_rfl))
 f128 := Tryz.func209.trans (congrArg some (by kernel_rfl))
 f129 := Tryz.func210.trans (congrArg some (by kernel_rfl))
 f189 := Tryz.func93.trans (congrArg some (by kernel_rfl))
 f215 := Tryz.func246.trans (congrArg some (by kernel_rfl))
 f216 := Tryz.func206.trans (congrArg some (by kernel_rfl))
 f257 := Tryz.func153.trans (congrArg some (by kernel_rfl))
 f294 := Tryz.func200.trans (congrArg some (by kernel_rfl))
 f295 := Tryz.func201.trans (congrArg some (by kernel_rfl))
 f296 := Tryz.func202.trans (congrArg some (by kernel_rfl))
 f297 := Tryz.func203.trans (congrArg some (by kernel_rfl))
 f298 := Tryz.func204.trans (congrArg some (by kernel_rfl))
 f299 := Tryz.func205.trans (congrArg some (by kernel_rfl))
 f300 := Tryz.func207.trans (congrArg some (by kernel_rfl))
 f301 := Tryz.func208.trans (congrArg some (by kernel_rfl))
 f328 := Tryz.func241.trans (congrArg some (by kernel_rfl))
 f329 := Tryz.func242.trans (congrArg some (by kernel_rfl))
 f330 := Tryz.func243.trans (congrArg some (by kernel_rfl))
 f331 := Tryz.func244.trans (congrArg some (by kernel_rfl))
 f332 := Tryz.func245.trans (congrArg some (by kernel_rfl))
 f343 := Tryz.func263.trans (congrArg some (by kernel_rfl))
 t0 := Tryz.underlying0
 a0 := Tryz.isAgg0
 z0 := Tryz.sizeOf0
 v0 := Tryz.zeroValue0
 t3 := Tryz.underlying3
 a3 := Tryz.isAgg3
 z3 := Tryz.sizeOf3
 v3 := Tryz.zeroValue3
 t4 := Tryz.underlying4
 a4 := Tryz.isAgg4
 z4 := Tryz.sizeOf4
 v4 := Tryz.zeroValue4
 t5 := Tryz.underlying5
 a5 := Tryz.isAgg5
 z5 := Tryz.sizeOf5
 v5 := Tryz.zeroValue5
 t9 := Tryz.underlying9
 a9 := Tryz.isAgg9
 z9 := Tryz.sizeOf9
 v9 := Tryz.zeroValue9
 t28 := Tryz.underlying44
 a28 := Tryz.isAgg44
 z28 := Tryz.sizeOf44
 v28 := Tryz.zeroValue44
 t46 := Tryz.underlying187
 a46 := Tryz.isAgg187
 z46 := Tryz.sizeOf187
 v46 := Tryz.zeroValue187
 t51 := Tryz.underlying229
 a51 := Tryz.isAgg229
 z51 := Tryz.sizeOf229
 v51 := Tryz.zeroValue229
 t53 := Tryz.underlying231
 a53 := Tryz.isAgg231
 z53 := Tryz.sizeOf231
 v53 := Tryz.zeroValue231
 t131 := Tryz.underlying130
 a131 := Tryz.isAgg130
 z131 := Tryz.sizeOf130
 v131 := Tryz.zeroValue130
 t182 := Tryz.underlying222
 a182 := Tryz.isAgg222
 z182 := Tryz.sizeOf222
 v182 := Tryz.zeroValue222
 t183 := Tryz.underlying223
 a183 := Tryz.isAgg223
 z183 := Tryz.sizeOf223
 v183 := Tryz.zeroValue223
 t218 := Tryz.underlying255
 a218 := Tryz.isAgg255
 z218 := Tryz.sizeOf255
 v218 := Tryz.zeroValue255
 t222 := Tryz.underlying259
 a222 := Tryz.isAgg259
 z222 := Tryz.sizeOf259
 v222 := Tryz.zeroValue259
 t228 := Tryz.underlying279
 a228 := Tryz.isAgg279
 z228 := Tryz.sizeOf279
 v228 := Tryz.zeroValue279
 t229 := Tryz.underlying153
 a229 := Tryz.isAgg153
 z229 := Tryz.sizeOf153
 v229 := Tryz.zeroValue153 }
theorem Tryz.slices_Sort_int (blk off cap : Nat) (zs : List Int) (w : World) (hH : Holds (Value.int .i64) w blk off zs.toArray) (hblk : blk < w.heap.size) (hsz : zs.length < 4611686018427387904) :
  Calls Tryz.prog 93 #[.slice (some ⟨blk, off, none⟩) zs.length cap] w fun e w' =>
   e = .returned (.tuple #[]) ∧ ∃ n os, w' = grow (putRow (Value.int .i64) (Sort.ahead w n) blk off (zs.mergeSort fun x y => decide (x ≤ y)).toArray) os := Any.slices_Sort_int Tryz.lays189 blk off cap zs w hH hblk hsz
def Tryz.lays99_ren : Go.Shelf.Ren := ⟨fun | 99 => 132 | 206 => 184 | n => n, fun | 9 => 9 | 4 => 4 | 3 => 3 | n => n, fun | n => n⟩
theorem Tryz.lays99 : Go.Proofs.Lays.n99 Tryz.prog Tryz.lays99_ren := {
 mixed := by kernel_rfl
 f99 := Tryz.func132.trans (congrArg some (by kernel_rfl))
 f206 := Tryz.func184.trans (congrArg some (by kernel_rfl))
 t3 := Tryz.underlying3
 a3 := Tryz.isAgg3
 z3 := Tryz.sizeOf3
 v3 := Tryz.zeroValue3
 t4 := Tryz.underlying4
 a4 := Tryz.isAgg4
 z4 := Tryz.sizeOf4
 v4 := Tryz.zeroValue4
 t9 := Tryz.underlying9
 a9 := Tryz.isAgg9
 z9 := Tryz.sizeOf9
 v9 := Tryz.zeroValue9 }
theorem Tryz.strings_HasPrefix (s p : ByteArray) (w : World) :
  Calls Tryz.prog 132 #[.string s, .string p] w fun e w' => e = .returned (.bool (Lib.hasPrefix s.data.toList p.data.toList)) ∧ w' = w := Any.strings_HasPrefix Tryz.lays99 s p w
def Tryz.laysNm220_ren : Go.Shelf.Ren := ⟨fun | 20 => 94 | n => n, fun | 22 => 44 | 3 => 3 | 4 => 4 | 0 => 0 | n => n, fun | n => n⟩
theorem Tryz.laysNm220 : Go.Proofs.Lays2.n20 Tryz.prog Tryz.laysNm220_ren := {
 mixed := by kernel_rfl
 f20 := Tryz.func94.trans (congrArg some (by kernel_rfl))
 t0 := Tryz.underlying0
 a0 := Tryz.isAgg0
 z0 := Tryz.sizeOf0
 v0 := Tryz.zeroValue0
 t3 := Tryz.underlying3
 a3 := Tryz.isAgg3
 z3 := Tryz.sizeOf3
 v3 := Tryz.zeroValue3
 t4 := Tryz.underlying4
 a4 := Tryz.isAgg4
 z4 := Tryz.sizeOf4
 v4 := Tryz.zeroValue4
 t22 := Tryz.underlying44
 a22 := Tryz.isAgg44
 z22 := Tryz.sizeOf44
 v22 := Tryz.zeroValue44
 i3 := by kernel_rfl }
theorem Tryz.slices_Compact_int (blk off cap : Nat) (zs : List Int) (w : World) (hH : Holds (Value.int .i64) w blk off zs.toArray) (hsz : zs.length ≤ 9223372036854775807) (hcap : zs.length ≤ cap) :
  Calls Tryz.prog 94 #[.slice (some ⟨blk, off, none⟩) zs.length cap] w fun e w' => e = .returned (.slice (some ⟨blk, off, none⟩) (Lib.compact zs).length cap) ∧ ∃ q, w' = putRow (Value.int .i64) (Sort.ahead w q) blk off (Lib.compact zs ++ List.replicate (zs.length - (Lib.compact zs).length) 0).toArray := Any.slices_Compact_int Tryz.laysNm220 blk off cap zs w hH hsz hcap
theorem Tryz.slices_Compact_int_empty (a : Option Addr) (cap : Nat) (w : World) :
  Calls Tryz.prog 94 #[.slice a 0 cap] w fun e w' => e = .returned (.slice a 0 cap) ∧ w' = w := Any.slices_Compact_int_empty Tryz.laysNm220 a cap w
theorem Tryz.slices_Sort_int_none (p : Option Addr) (cap : Nat) (w : World) :
  Calls Tryz.prog 93 #[.slice p 0 cap] w fun e w' => e = .returned (.tuple #[]) ∧ w' = w := Any.slices_Sort_int_none Tryz.lays189 p cap w
end Go.Proofs
namespace Go.Proofs.YtjdgpgfiomnjkaaGreatDoor
open Go.RowKit
set_option linter.unusedVariables false
set_option linter.unusedSimpArgs false
set_option linter.unusedSectionVars false
variable [Ghost]
set_option maxHeartbeats 400000 in
theorem put1_any (r : Rf) (s : ByteArray) (w : World) :
  Calls Tryz.prog 260 #[.agg #[.string r.name, .int .i64 r.id], .string s] w fun e w' => e = .returned (.int .i64 (cmpS r.name s)) ∧ Below w.heap.size w w' := by
 have hb1 : Below w.heap.size w (w.alloc (.cells #[.string r.name, .int .i64 r.id] 62)) := (Below.refl _ _).alloc (Nat.le_refl _) _
 have HC := Lib.hid (fun x => Tryz.strings_Compare r.name s x)
 unfold cmpS
 generalize Lib.compareBytes r.name.data.toList s.data.toList = c at *
 go_enter Tryz.func260, Tryz.ntmps260
 go_wp2_with fail
 refine (HC.out _).mono ?_
 rintro e w' ⟨rfl, hw⟩
 subst hw
 go_wp2_with fail
 go_ret
 exact ⟨rfl, hb1⟩
theorem loR_eq {l : List Rf} {s : ByteArray} {i : Nat} (hi : i ≤ l.length) (h1 : ∀ j, j < i → strLt (rf l j).name s = true) (h2 : i < l.length → strLt (rf l i).name s = false) : loR l s = i := by
 unfold loR
 induction l generalizing i with
 | nil => simp at hi; subst hi; rfl
 | cons x l ih =>
  cases i with
  | zero =>
   have := h2 (by simp)
   rw [List.takeWhile_cons]
   have e : rf (x :: l) 0 = x := rfl
   rw [e] at this
   rw [this]; rfl
  | succ i =>
   have := h1 0 (by omega)
   have e : rf (x :: l) 0 = x := rfl
   rw [e] at this
   rw [List.takeWhile_cons, this]
   simp only [if_true, List.length_cons]
   rw [ih (i := i) (by simpa using hi) (fun j hj => h1 (j + 1) (by omega)) (fun h => h2 (by simpa using h))]
def isRB (l : List Rf) (s : ByteArray) : Bool := decide (loR l s < l.length) && (cmpS (rf l (loR l s)).name s == 0)
set_option maxRecDepth 100000 in
set_option maxHeartbeats 2000000 in
theorem searchR_any (l : List Rf) (v : Value) (S : Nat → Prop) (s : ByteArray) (w : World) (h : RefsV S w v l) (hr : Asc l) :
  Calls Tryz.prog 259 #[v, .string s, .func (.func 260) #[] #[]] w fun e w' => e = .returned (.tuple #[.int .i64 (loR l s), .bool (isRB l s)]) ∧ Below w.heap.size w w' := by
 obtain ⟨a, n, cap, HN, rfl, h1, h2, h3, h4, h5⟩ := h.open
 clear h h5
 obtain ⟨R, hR, hR1, _⟩ := cls_plain w
 have hRb := hR.below
 have hRn := hR.next
 have Hlo := Lib.hid (fun i (hi : i ≤ n) h1 h2 => loR_eq (l := l) (s := s) (i := i) (by rw [← HN.out]; exact hi) h1 h2)
 have Hr := Lib.hid (asc_iff.1 hr)
 clear hr
 go_enter Tryz.func259, Tryz.ntmps259
 go_wp2_with fail
 go_loopg [9, 10] n (fun kx s9 s10 wr => ∃ i j : Nat, s9 = .int .i64 i ∧ s10 = .int .i64 j ∧ i ≤ j ∧ j ≤ n ∧ j - i ≤ kx ∧ In R wr ∧
  Hid ((∀ t, t < i → strLt (rf l t).name s = true) ∧ (∀ t, j ≤ t → t < n → strLt (rf l t).name s = false)))
 case atStart => exact ⟨0, n, rfl, rfl, by omega, by omega, by omega, hR1, ⟨fun t ht => absurd ht (by omega), fun t h1 h2 => by omega⟩⟩
 case round =>
  clear hR1
  obtain ⟨i, j, rfl, rfl, hij, hjn, hg, hRw, I⟩ := hrel
  by_cases hlt : i < j
  ·obtain ⟨b, off, rfl, hb, k0, k1⟩ := h4 (by omega)
   clear h4
   have m1 : ((i + j) / 2 : Nat) < n := by omega
   have x0 := k0 ((i + j) / 2) wr m1 (hRb _ hRw)
   have x1 := k1 ((i + j) / 2) wr m1 (hRb _ hRw)
   clear k0 k1
   have Hc := Lib.hid (cmpS_lt (rf l ((i + j) / 2)).name s)
   by_cases hc : cmpS (rf l ((i + j) / 2)).name s < 0
   ·have HC := Lib.hid (Hc.out.1 hc)
    have hc1 : decide (cmpS (rf l ((i + j) / 2)).name s < 0) = true := decide_eq_true hc
    clear hc
    go_wp2_with (go_at_call 260; refine (put1_any _ _ _).mono ?_; rintro e w' ⟨rfl, hb2⟩; have hR2 := hRn _ _ hRw hb2)
    go_roundg (j - ((i + j) / 2 + 1))
    case measure => omega
    case rel =>
     have I2 : Hid ((∀ t, t < (i + j) / 2 + 1 → strLt (rf l t).name s = true) ∧ (∀ t, j ≤ t → t < n → strLt (rf l t).name s = false)) := ⟨fun t ht => by
      by_cases e : t = (i + j) / 2
      ·subst e; exact HC.out
      ·exact strLt_trans (Hr.out t ((i + j) / 2) (by omega) (by have := HN.out; omega)) HC.out, I.out.2⟩
     exact ⟨(i + j) / 2 + 1, j, by rw [show ((i : Int) + (j : Int)) / 2 + 1 = (((i + j) / 2 + 1 : Nat) : Int) by omega], rfl, by omega, hjn, Nat.le_refl _, hR2, I2⟩
   ·have HC := Lib.hid (show strLt (rf l ((i + j) / 2)).name s = false by
     cases e : strLt (rf l ((i + j) / 2)).name s
     ·rfl
     ·exact absurd (Hc.out.2 e) hc)
    have hc1 : decide (cmpS (rf l ((i + j) / 2)).name s < 0) = false := decide_eq_false hc
    clear hc
    go_wp2_with (go_at_call 260; refine (put1_any _ _ _).mono ?_; rintro e w' ⟨rfl, hb2⟩; have hR2 := hRn _ _ hRw hb2)
    go_roundg ((i + j) / 2 - i)
    case measure => omega
    case rel =>
     have I2 : Hid ((∀ t, t < i → strLt (rf l t).name s = true) ∧ (∀ t, (i + j) / 2 ≤ t → t < n → strLt (rf l t).name s = false)) := ⟨I.out.1, fun t ht htn => by
      by_cases e : t = (i + j) / 2
      ·subst e; exact HC.out
      ·cases e2 : strLt (rf l t).name s
       ·rfl
       ·have := strLt_trans (Hr.out ((i + j) / 2) t (by omega) (by have := HN.out; omega)) e2
        rw [HC.out] at this; cases this⟩
     exact ⟨i, (i + j) / 2, rfl, by rw [show ((i : Int) + (j : Int)) / 2 = (((i + j) / 2 : Nat) : Int) by omega], by omega, by omega, Nat.le_refl _, hR2, I2⟩
  ·obtain rfl : j = i := by omega
   have HL := Lib.hid (Hlo.out j hjn I.out.1 (fun h => I.out.2 j (Nat.le_refl _) (by have := HN.out; omega)))
   by_cases hn : j < n
   ·obtain ⟨b, off, rfl, hb, k0, k1⟩ := h4 (by omega)
    clear h4
    have x0 := k0 j wr hn (hRb _ hRw)
    have x1 := k1 j wr hn (hRb _ hRw)
    clear k0 k1
    have Hn := Lib.hid (show j < l.length by have := HN.out; omega)
    cases hq : (cmpS (rf l j).name s == 0)
    all_goals
     have HB := Lib.hid (show isRB l s = (cmpS (rf l j).name s == 0) by unfold isRB; rw [HL.out]; simp [Hn.out])
     rw [hq] at HB
     go_wp2_with (go_at_call 260; refine (put1_any _ _ _).mono ?_; rintro e w' ⟨rfl, hb2⟩; have hR2 := hRn _ _ hRw hb2)
     go_ret2
     exact ⟨ret_ib (congrArg _ HL.out.symm) HB.out.symm, hRb _ hR2⟩
   ·have HB := Lib.hid (show isRB l s = false by unfold isRB; rw [HL.out, ← HN.out]; simp [hn])
    go_wp2
    go_ret2
    exact ⟨ret_ib (congrArg _ HL.out.symm) HB.out.symm, hRb _ hRw⟩
def MoverAt (B J : Nat) (ov : Value) (force : Bool) (w : World) (l : List Rf) : Prop :=
 ∃ v, OwnR B w v l ∧ v.ownBlock ≠ some J ∧ w.heap[J]? = some (.cells #[v, ov, .bool force] 216 (0, 0))
theorem MoverAt.below {B J : Nat} {ov : Value} {force : Bool} {w w' : World} {l : List Rf} (h : MoverAt B J ov force w l) (hb : Below w.heap.size w w') : MoverAt B J ov force w' l := by
 obtain ⟨v, h1, h2, h3⟩ := h
 exact ⟨v, h1.below hb, h2, (hb.block _ (lt_of_block h3)).trans h3⟩
theorem mover_end {B J : Nat} {ov : Value} {force : Bool} {w xo w9 : World} {v v' : Value} {l m : List Rf} (hB : B ≤ J) (hJw : J < w.heap.size) (hown : OwnR B w v l) (hvJ : v.ownBlock ≠ some J) (hcJ : w.heap[J]? = some (.cells #[v, ov, .bool force] 216 (0, 0)))
  (hb : Below w.heap.size w xo) (hG : OwnR B w9 v' m) (hu : Upd (fun b => v.ownBlock = some b) xo w9) (hat : v'.ownBlock = v.ownBlock ∨ ∃ k, v'.ownBlock = some k ∧ xo.heap.size ≤ k) :
  MoverAt B J ov force (w9.setCell ⟨J, 0, none⟩ v') m ∧ Below B w (w9.setCell ⟨J, 0, none⟩ v') := by
 have h1 := hb.size
 have hJ9 : w9.heap[J]? = some (.cells #[v, ov, .bool force] 216 (0, 0)) := hu.blk ((hb.block _ hJw).trans hcJ) hvJ
 have hu2 : Upd (fun b => b = J) w9 (w9.setCell ⟨J, 0, none⟩ v') := (Upd.refl (fun b => b = J) w9).setCell (p := ⟨J, 0, none⟩) (fun _ => rfl) _
 have hv' : v'.ownBlock ≠ some J := by
  rcases hat with h | ⟨k, h, hk⟩
  ·rw [h]; exact hvJ
  ·rw [h]; intro e; cases e; omega
 refine ⟨⟨v', hG.upd hu2 (fun g hg e => hv' (by rw [hg, e])), hv', block_setCell (j := 0) hJ9 v'⟩, ?_⟩
 exact (hb.mono (by omega)).trans ((hu.below (by omega) (fun b hb => (hown.block hb).1)).trans (hu2.below (B := B) (by have := hu.size; omega) (fun b e => by omega)))
end Go.Proofs.YtjdgpgfiomnjkaaGreatDoor
