
/- DiffC: walks of diff.Refs. -/
import Derived.Test.YtjdgpgfiomnjkaaGreatDoorQ18
import Derived.Test.YtjdgpgfiomnjkaaGreatDoorQ23
import Derived.Test.YtjdgpgfiomnjkaaGreatDoorQ11
import Derived.Shelf.SlSortCmp.NoneTotal
import Derived.Test.YtjdgpgfiomnjkaaGreatDoorQ29
namespace Go.Proofs.YtjdgpgfiomnjkaaGreatDoor
open Go.RowKit
set_option linter.unusedVariables false
set_option linter.unusedSimpArgs false
set_option linter.unusedSectionVars false
variable [Ghost]
set_option maxHeartbeats 1000000 in
theorem drefs1_any (x y : Mv) (W : World) :
  Calls Tryz.prog 127 #[.agg #[.string x.name, .int .i64 x.old, .int .i64 x.new], .agg #[.string y.name, .int .i64 y.old, .int .i64 y.new]] W
   fun e w' => e = .returned (.int .i64 (cmpS x.name y.name)) ∧ ∃ q os', w' = Go.Sort.grow (W.drewN q) os' := by
 have hcon := fun W' => Tryz.strings_Compare x.name y.name W'
 unfold cmpS
 generalize Lib.compareBytes x.name.data.toList y.name.data.toList = r at hcon ⊢
 go_enter Tryz.func127, Tryz.ntmps127
 go_wp2_with fail
 refine (hcon _).mono ?_
 rintro e w' ⟨rfl, rfl⟩
 go_wp2_with fail
 go_ret
 exact ⟨rfl, 0, _, by rw [Go.Sort.alloc_eq_grow, Go.Sort.alloc_eq_grow, Go.Sort.grow_grow]; rfl⟩
theorem cmpLaysU (blk off size : Nat) (w : World) : Go.Proofs.CmpLays Tryz.prog 127 #[] mvCells 3 (fun a b => cmpS a.name b.name) blk off size w :=
 fun _ _ _ _ x y => drefs1_any x y _
set_option maxRecDepth 100000 in
theorem sortU_any {B : Nat} {w : World} {v : Value} {l : List Mv} (h : OwnU B w v l) (hl : l.length ≤ 1000) (hB : B ≤ w.heap.size) :
  Calls Tryz.prog 126 #[v, .func (.func 127) #[] #[]] w
   fun e w' => e = .returned (.tuple #[]) ∧ ∃ d : List Mv, d.Perm l ∧ (d.Pairwise fun a b => strLt b.name a.name = false) ∧ MvsV (fun b => B ≤ b) w' v d ∧ Below B w w' := by
 by_cases h0 : l.length = 0
 ·obtain rfl : l = [] := List.length_eq_zero_iff.1 h0
  have hm := h.mvs (by simp)
  obtain ⟨a, c, rfl⟩ := h.shape
  refine (Go.Proofs.AnyF.slices_SortFunc_none Tryz.sortU a c _ w).mono ?_
  rintro e w' ⟨rfl, rfl⟩
  exact ⟨rfl, [], List.Perm.refl _, List.Pairwise.nil, hm.weaken fun _ h => h.1, Below.refl _ _⟩
 ·obtain ⟨g, cap, rfl⟩ : ∃ g cap, v = .slice (some ⟨g, 0, none⟩) l.length cap := by
   rcases h.1.2 with ⟨rfl, hn⟩ | ⟨g, cap, cur, rfl, _⟩
   ·omega
   ·exact ⟨g, cap, rfl⟩
  have eg : ∀ args w, (callFunc 127 args).run Tryz.prog w = .ok (.enter 127 args) w := fun _ _ => rfl
  have hb := h.block (g := g) rfl
  have hcon := Go.Proofs.AnyQ.slices_SortFunc Tryz.sortU 3 Tryz.isAgg107 Tryz.sizeOf107 mvCells (fun _ => rfl) (fun x => one_mv x) (fun a b => cmpS a.name b.name) swoN 127 #[] g 0 cap l.toArray w eg (cmpLaysU _ _ _ _) (own_holds h) hb.2 (by simp; omega)
  refine (show Calls Tryz.prog 126 #[.slice (some ⟨g, 0, none⟩) l.length cap, .func (.func 127) #[] #[]] w _ from hcon).mono ?_
  rintro e w' ⟨rfl, d, m, os, hp, hs, rfl⟩
  obtain ⟨e1, e2, e3⟩ := sort_lists hp hs
  refine ⟨rfl, d.toList, e2, e3, own_sorted h (by omega) e1 (fun u hu => h.2 u (e2.mem_iff.1 hu)), (sort_upd w g m d os).below hB (fun b e => by rw [e]; exact hb.1)⟩
def RetMvsE (w w' : World) (e : Ending) (l : List Mv) (c : Int) : Prop := ∃ v, e = .returned (.tuple #[v, .int .i64 c]) ∧ MvsV (fun _ => True) w' v l ∧ Below w.heap.size w w'
theorem lists_ok {l m : List Rf} (h : listsE l m = 0) : l.length ≤ 8 ∧ m.length ≤ 8 ∧ Asc l ∧ Asc m := by
 unfold listsE at h
 by_cases h8 : 8 < l.length ∨ 8 < m.length
 ·rw [if_pos h8] at h; cases h
 ·rw [if_neg h8] at h
  by_cases h1 : namesE l = 0
  ·by_cases h2 : namesE m = 0
   ·rw [if_neg (by simpa using h1), if_neg (by simpa using h2)] at h
    by_cases h3 : risesB l = true ∧ risesB m = true
    ·exact ⟨by omega, by omega, rises_asc h3.1, rises_asc h3.2⟩
    ·rw [if_neg h3] at h; cases h
   ·rw [if_neg (by simpa using h1), if_pos (by simpa using h2)] at h; exact absurd h h2
  ·rw [if_pos (by simpa using h1)] at h; exact absurd h h1
set_option maxRecDepth 100000 in
set_option maxHeartbeats 4000000 in
theorem drefs_any (l m : List Rf) (v u : Value) (S S' : Nat → Prop) (w : World) (h : RefsV S w v l) (hm : RefsV S' w u m) :
  Calls Tryz.prog 64 #[v, u] w fun e w' => RetMvsE w w' e (refsL l m) (listsE l m) := by
 have hb0 : Below w.heap.size w (w.alloc (.cells #[v, u] 23)) := (Below.refl _ _).alloc (Nat.le_refl _) _
 have HB := Lib.hid (dboth_any l m v u S S' w.heap.size (w.alloc (.cells #[v, u] 23)) (h.below hb0) (hm.below hb0) (heap_alloc_new w _))
 have Hl := Lib.hid h
 have Hm := Lib.hid hm
 obtain ⟨a, n, cap, HN, rfl, h1, h2, h3, h4, h5⟩ := h.open
 obtain ⟨ma, n', mcap, HN', rfl, d1, d2, d3, d4, d5⟩ := hm.open
 have H5 := Lib.hid h5
 have D5 := Lib.hid d5
 clear h hm h5 d5
 obtain ⟨R, hR, hR1, hRall⟩ := cls_plain w
 have hRb := hR.below
 have hRn := hR.next
 have hRa := hRall _ hb0
 have HL := Lib.hid (show refsL l m = if listsE l m = 0 then leadL l m else [] from rfl)
 by_cases he : listsE l m = 0
 ·obtain ⟨h8, d8, hal, ham⟩ := lists_ok he
  have HE := Lib.hid (show refsL l m = leadL l m by rw [HL.out, if_pos he])
  rw [he] at HB
  rw [he, HE.out]
  have Hal := Lib.hid hal
  have Ham := Lib.hid ham
  have hn8 : n ≤ 8 := by rw [HN.out]; exact h8
  have hd8 : n' ≤ 8 := by rw [HN'.out]; exact d8
  have HA0 := Lib.hid (show movesA l m 0 = [] from rfl)
  have HAn := Lib.hid (fun k => show movesA l m (k + 1) = if goneB m (rf l k) = true then movesA l m k ++ [⟨(rf l k).name, idOf m (rf l k).name, (rf l k).id⟩] else movesA l m k from rfl)
  have HAl := Lib.hid (movesA_length l m)
  have HH := Lib.hid (fun x (hx : In R x) (w5 : World) (v : Value) (hu5 : Upd (fun b => Value.ownBlock v = some b) x w5) (hv : ∀ g, Value.ownBlock v = some g → w.heap.size ≤ g) => show In R w5 from hRall _ ((hRb _ hx).trans (hu5.below (B := w.heap.size) (hRb _ hx).size (fun b hb => hv b hb))))
  have HBo := Lib.hid hb0
  clear HL HE he h8 d8 hal ham hb0
  go_enter Tryz.func64, Tryz.ntmps64
  go_wp2_with fail
  refine HB.out.mono ?_
  rintro e w1 ⟨rfl, hb1⟩
  have hR2 := hRall _ (below_next HBo.out hb1)
  clear hb1 hR1 hRa HB
  go_wp2_with fail
  go_loopw [7, 23] (fun v i wr => ∃ k : Nat, k ≤ n ∧ i = .int .i64 k ∧ Hid (OwnU w.heap.size wr v (movesA l m k)) ∧ In R wr) (fun _ i _ => n - (intOf i).toNat)
  case atStart => exact ⟨0, by omega, rfl, by rw [HA0.out]; exact OwnU.nil _ _, hR2⟩
  case round =>
   obtain ⟨k, hk, rfl, HG0, hRw⟩ := hrel
   clear hR2
   obtain ⟨va, vc, hvs⟩ := HG0.out.shape
   obtain ⟨vn, hvn⟩ : ∃ vn, vn = (movesA l m k).length := ⟨_, rfl⟩
   have Hl2 := Lib.hid (show (movesA l m k).length ≤ 8 by have := HAl.out k; omega)
   rw [← hvn] at hvs
   clear hvn
   subst hvs
   by_cases hlt : k < n
   ·obtain ⟨b, off, rfl, hb, k0, k1⟩ := h4 (by omega)
    have x0 := k0 k wr hlt (hRb _ hRw)
    have x1 := k1 k wr hlt (hRb _ hRw)
    clear h4 k0 k1
    obtain ⟨Q, hQ, hQ1, hy⟩ := cls_box wr #[.string (rf l k).name, .int .i64 (rf l k).id] 62
    have y0 := hy 0 _ rfl
    have y1 := hy 1 _ rfl
    have y01 := y0 _ hQ1
    have hQR := Lib.hid (fun x (hx : In Q x) => hRn _ _ hRw (hQ.below x hx))
    have hi1 : (0 : Int) ≤ (k : Int) := by omega
    have hi2 : (k : Int) < (n : Int) := by omega
    have Hok := Lib.hid (H5.out k hlt)
    have Hf := Lib.hid (fun x (hx : In Q x) => find_any m _ S' (rf l k).name x (Hm.out.below (hRb _ (hQR.out _ hx))))
    have Han := Lib.hid (HAn.out k)
    clear hy
    by_cases hf : findRf m (rf l k).name = -1
    ·have Hon := Lib.hid (show movesA l m (k + 1) = movesA l m k ++ [⟨(rf l k).name, 0, (rf l k).id⟩] by
      rw [Han.out, if_pos (show goneB m (rf l k) = true by unfold goneB; simp [hf])]
      have : idOf m (rf l k).name = 0 := by unfold idOf; rw [if_pos hf]
      rw [this])
     rw [hf] at Hf
     clear hf
     go_wp2_with fail
     refine (Hf.out _ hQ1).mono ?_
     rintro e w4 ⟨rfl, hb4⟩
     have hQ4 := hQ.next _ _ hQ1 hb4
     have hR4 := hQR.out _ hQ4
     have hBs := (hRb _ hR4).size
     have HG := Lib.hid (HG0.out.below (below_next (hQ.below _ hQ1) hb4))
     have y04 := y0 _ hQ4
     have y14 := y1 _ hQ4
     clear hb4 y01 x0 x1 HG0
     go_wp2_with (at_builtin; refine wpList_append_mv (p := ⟨(rf l k).name, 0, (rf l k).id⟩) rfl _ _ rfl HG.out ⟨(show I64 0 from by constructor <;> decide), Hok.out.1, Hok.out.2⟩ (by have := Hl2.out; omega) hBs rfl rfl (by first | rfl | simp) ?_)
     intro v' w5 hG5 hu5
     have hR5 := HH.out _ hR4 w5 _ hu5 (fun g hg => (HG.out.block hg).1)
     have HG5 := Lib.hid hG5
     obtain ⟨pv, hpv⟩ : ∃ p : Option Addr × Nat × Nat, v' = .slice p.1 p.2.1 p.2.2 := let ⟨a, c, h⟩ := hG5.shape; ⟨(a, _, c), h⟩
     clear hG5 hu5
     subst hpv
     go_wp2_with fail
     go_roundw
     case rel => exact ⟨k + 1, by omega, by go_num, by rw [Hon.out]; exact HG5.out, hR5⟩
     case measure => simp [intOf]; omega
    ·obtain ⟨k2, hk2, hfk, hkn⟩ := find_some hf
     have HI := Lib.hid (show idOf m (rf l k).name = (rf m k2).id by unfold idOf; rw [if_neg hf, hfk]; rfl)
     have hkn2 : k2 < n' := by rw [HN'.out]; exact hk2
     have hgo := show goneB m (rf l k) = decide ((rf m k2).id ≠ (rf l k).id) by unfold goneB; rw [HI.out]; simp [hf]
     rw [hfk] at Hf
     obtain ⟨mb, moff, rfl, hmb, q0, q1⟩ := d4 (by omega)
     have z1 := fun x (hx : In R x) => q1 k2 x hkn2 (hRb x hx)
     have hj1 : (0 : Int) ≤ (k2 : Int) := by omega
     have hj2 : (k2 : Int) < (n' : Int) := by omega
     have hj3 : decide ((k2 : Int) < 0) = false := decide_eq_false (by omega)
     have hj4 : decide ((0 : Int) ≤ (k2 : Int)) = true := decide_eq_true (by omega)
     have Dok := Lib.hid (D5.out k2 hkn2)
     rw [hgo] at Han
     clear hf hfk hkn d4 q0 q1 hgo hk2
     by_cases hid : (rf m k2).id = (rf l k).id
     ·have Hon := Lib.hid (show movesA l m (k + 1) = movesA l m k by rw [Han.out, if_neg (by simp [hid])])
      have hq : ((rf m k2).id != (rf l k).id) = false := by simp [hid]
      clear hid
      go_wp2_with fail
      refine (Hf.out _ hQ1).mono ?_
      rintro e w4 ⟨rfl, hb4⟩
      have hQ4 := hQ.next _ _ hQ1 hb4
      have hR4 := hQR.out _ hQ4
      have hBs := (hRb _ hR4).size
      have HG := Lib.hid (HG0.out.below (below_next (hQ.below _ hQ1) hb4))
      have y04 := y0 _ hQ4
      have y14 := y1 _ hQ4
      clear hb4 y01 x0 x1 HG0
      have z14 := z1 _ hR4
      go_wp2_with fail
      go_roundw
      case rel => exact ⟨k + 1, by omega, by go_num, by rw [Hon.out]; exact HG.out, hR4⟩
      case measure => simp [intOf]; omega
     ·have Hon := Lib.hid (show movesA l m (k + 1) = movesA l m k ++ [⟨(rf l k).name, (rf m k2).id, (rf l k).id⟩] by rw [Han.out, if_pos (by simp [hid]), HI.out])
      have hq : ((rf m k2).id != (rf l k).id) = true := by simp [hid]
      clear hid
      go_wp2_with fail
      refine (Hf.out _ hQ1).mono ?_
      rintro e w4 ⟨rfl, hb4⟩
      have hQ4 := hQ.next _ _ hQ1 hb4
      have hR4 := hQR.out _ hQ4
      have hBs := (hRb _ hR4).size
      have HG := Lib.hid (HG0.out.below (below_next (hQ.below _ hQ1) hb4))
      have y04 := y0 _ hQ4
      have y14 := y1 _ hQ4
      clear hb4 y01 x0 x1 HG0
      have z14 := z1 _ hR4
      go_wp2_with (at_builtin; refine wpList_append_mv (p := ⟨(rf l k).name, (rf m k2).id, (rf l k).id⟩) rfl _ _ rfl HG.out ⟨Dok.out.1, Hok.out.1, Hok.out.2⟩ (by have := Hl2.out; omega) hBs rfl rfl (by first | rfl | simp) ?_)
      intro v' w5 hG5 hu5
      have hR5 := HH.out _ hR4 w5 _ hu5 (fun g hg => (HG.out.block hg).1)
      have HG5 := Lib.hid hG5
      obtain ⟨pv, hpv⟩ : ∃ p : Option Addr × Nat × Nat, v' = .slice p.1 p.2.1 p.2.2 := let ⟨a, c, h⟩ := hG5.shape; ⟨(a, _, c), h⟩
      clear hG5 hu5
      subst hpv
      go_wp2_with fail
      go_roundw
      case rel => exact ⟨k + 1, by omega, by go_num, by rw [Hon.out]; exact HG5.out, hR5⟩
      case measure => simp [intOf]; omega
   ·obtain rfl : k = n := by omega
    have HB0 := Lib.hid (show movesB l m (movesA l m k) 0 = movesA l m k from rfl)
    have HBn := Lib.hid (fun j => show movesB l m (movesA l m k) (j + 1) = if findRf l (rf m j).name = -1 then movesB l m (movesA l m k) j ++ [⟨(rf m j).name, (rf m j).id, 0⟩] else movesB l m (movesA l m k) j from rfl)
    have HBl := Lib.hid (fun j => movesB_length l m (movesA l m k) j)
    have HBe := Lib.hid (show movesB l m (movesA l m k) n' = movesL l m by rw [HN.out, HN'.out]; rfl)
    go_wp2_with fail
    go_loopw [7, 58] (fun v i wr => ∃ j : Nat, j ≤ n' ∧ i = .int .i64 j ∧ Hid (OwnU w.heap.size wr v (movesB l m (movesA l m k) j)) ∧ In R wr) (fun _ i _ => n' - (intOf i).toNat)
    case atStart => exact ⟨0, by omega, rfl, by rw [HB0.out]; exact HG0.out, hRw⟩
    case round =>
     obtain ⟨j, hj, rfl, HG1, hRx⟩ := hrel
     clear hRw HG0
     obtain ⟨va, vc, hvs⟩ := HG1.out.shape
     obtain ⟨vn, hvn⟩ : ∃ vn, vn = (movesB l m (movesA l m k) j).length := ⟨_, rfl⟩
     have Hl3 := Lib.hid (show (movesB l m (movesA l m k) j).length ≤ 16 by have := HBl.out j; have := Hl2.out; omega)
     rw [← hvn] at hvs
     have Hvn := Lib.hid hvn
     clear hvn
     subst hvs
     by_cases hlt : j < n'
     ·obtain ⟨mb, moff, rfl, hmb, q0, q1⟩ := d4 (by omega)
      have x0 := q0 j wr hlt (hRb _ hRx)
      have x1 := q1 j wr hlt (hRb _ hRx)
      clear d4 q0 q1
      obtain ⟨Q, hQ, hQ1, hy⟩ := cls_box wr #[.string (rf m j).name, .int .i64 (rf m j).id] 62
      have y0 := hy 0 _ rfl
      have y1 := hy 1 _ rfl
      have y01 := y0 _ hQ1
      have hQR := Lib.hid (fun x (hx : In Q x) => hRn _ _ hRx (hQ.below x hx))
      have hi1 : (0 : Int) ≤ (j : Int) := by omega
      have hi2 : (j : Int) < (n' : Int) := by omega
      have Hok := Lib.hid (D5.out j hlt)
      have Hf := Lib.hid (fun x (hx : In Q x) => find_any l _ S (rf m j).name x (Hl.out.below (hRb _ (hQR.out _ hx))))
      have Hbn := Lib.hid (HBn.out j)
      clear hy
      by_cases hf : findRf l (rf m j).name = -1
      ·have Hon := Lib.hid (show movesB l m (movesA l m k) (j + 1) = movesB l m (movesA l m k) j ++ [⟨(rf m j).name, (rf m j).id, 0⟩] by rw [Hbn.out, if_pos hf])
       rw [hf] at Hf
       clear hf
       go_wp2_with fail
       refine (Hf.out _ hQ1).mono ?_
       rintro e w4 ⟨rfl, hb4⟩
       have hQ4 := hQ.next _ _ hQ1 hb4
       have hR4 := hQR.out _ hQ4
       have hBs := (hRb _ hR4).size
       have HG := Lib.hid (HG1.out.below (below_next (hQ.below _ hQ1) hb4))
       have y04 := y0 _ hQ4
       have y14 := y1 _ hQ4
       clear hb4 y01 x0 x1 HG1
       go_wp2_with (at_builtin; refine wpList_append_mv (p := ⟨(rf m j).name, (rf m j).id, 0⟩) rfl _ _ rfl HG.out ⟨Hok.out.1, (show I64 0 from by constructor <;> decide), Hok.out.2⟩ (by have := Hl3.out; omega) hBs rfl rfl (by first | rfl | simp) ?_)
       intro v' w5 hG5 hu5
       have hR5 := HH.out _ hR4 w5 _ hu5 (fun g hg => (HG.out.block hg).1)
       have HG5 := Lib.hid hG5
       obtain ⟨pv, hpv⟩ : ∃ p : Option Addr × Nat × Nat, v' = .slice p.1 p.2.1 p.2.2 := let ⟨a, c, h⟩ := hG5.shape; ⟨(a, _, c), h⟩
       clear hG5 hu5
       subst hpv
       go_wp2_with fail
       go_roundw
       case rel => exact ⟨j + 1, by omega, by go_num, by rw [Hon.out]; exact HG5.out, hR5⟩
       case measure => simp [intOf]; omega
      ·have Hon := Lib.hid (show movesB l m (movesA l m k) (j + 1) = movesB l m (movesA l m k) j by rw [Hbn.out, if_neg hf])
       have hfd : decide (findRf l (rf m j).name < 0) = false := decide_eq_false (by obtain ⟨k2, _, hfk, _⟩ := find_some hf; rw [hfk]; omega)
       clear hf
       generalize findRf l (rf m j).name = fi at *
       go_wp2_with fail
       refine (Hf.out _ hQ1).mono ?_
       rintro e w4 ⟨rfl, hb4⟩
       have hQ4 := hQ.next _ _ hQ1 hb4
       have hR4 := hQR.out _ hQ4
       have hBs := (hRb _ hR4).size
       have HG := Lib.hid (HG1.out.below (below_next (hQ.below _ hQ1) hb4))
       have y04 := y0 _ hQ4
       have y14 := y1 _ hQ4
       clear hb4 y01 x0 x1 HG1
       go_wp2_with fail
       go_roundw
       case rel => exact ⟨j + 1, by omega, by go_num, by rw [Hon.out]; exact HG.out, hR4⟩
       case measure => simp [intOf]; omega
     ·obtain rfl : j = n' := by omega
      have HS := Lib.hid (sortU_any HG1.out (by have := Hl3.out; omega) (hRb _ hRx).size)
      have HS2 := HS.out
      go_wp2_with fail
      refine HS2.mono ?_
      rintro e w3 ⟨rfl, d, hp, hs, hv, hb3⟩
      have hR3 := hRall _ ((hRb _ hRx).trans hb3)
      rw [HBe.out] at hp
      have hd := sorted_lead Hal.out Ham.out hp hs
      subst hd
      go_wp2_with fail
      go_ret2
      exact ⟨_, rfl, hv.weaken fun _ _ => trivial, hRb _ hR3⟩
 ·have hq : (listsE l m != 0) = true := by simpa using he
  have HE := Lib.hid (show refsL l m = [] by rw [HL.out, if_neg he])
  have HBo := Lib.hid hb0
  rw [HE.out]
  clear HL HE he h4 d4 hb0
  generalize listsE l m = c at *
  go_enter Tryz.func64, Tryz.ntmps64
  go_wp2_with fail
  refine HB.out.mono ?_
  rintro e w1 ⟨rfl, hb1⟩
  have hb2 := below_next HBo.out hb1
  go_wp2_with fail
  go_ret2
  exact ⟨_, rfl, MvsV.nil _ _ _ _ (by omega), hb2⟩
end Go.Proofs.YtjdgpgfiomnjkaaGreatDoor
namespace Go.Proofs.YtjdgpgfiomnjkaaGreatDoor
open Go.RowKit
set_option linter.unusedVariables false
set_option linter.unusedSimpArgs false
set_option linter.unusedSectionVars false
variable [Ghost]
theorem mvs_fresh (w : World) (l : List Mv) (t : TypeId) (N : Nat) (hN : N = w.heap.size) (hl : l.length * 32 ≤ 140737488351232) (h : ∀ u ∈ l, I64 u.old ∧ I64 u.new ∧ u.name.size ≤ 140737488351232) :
  MvsV (fun b => b = N) (w.alloc (.cells (flat (fun i => mvCells (mv l i)) l.length).toArray t)) (.slice (some ⟨N, 0, none⟩) l.length l.length) l :=
 ⟨sl_new w _ 3 32 _ t N hN (fun _ _ => rfl) hl (by omega), h⟩
theorem store_from {S : Nat → Prop} {w : World} {b off n cap : Nat} {l : List Obj} (h : StoreV S w (.slice (some ⟨b, off, none⟩) n cap) l) {i : Nat} (hi : i ≤ l.length) : StoreV S w (.slice (some ⟨b, off + i * 4, none⟩) (n - i) (cap - i)) (l.drop i) := by
 obtain ⟨lvs, ⟨a', cap', hv, h1, h2, h3, h4⟩, h5⟩ := h
 cases hv
 refine ⟨fun j => lvs (i + j), ⟨_, _, by rw [List.length_drop], by rw [List.length_drop]; omega, by omega, by rw [List.length_drop]; omega, fun hn => ?_⟩, fun j hj => ?_⟩
 ·rw [List.length_drop] at hn
  obtain ⟨b', off', ha, hS, hc⟩ := h4 (by omega)
  cases ha
  refine ⟨b, off + i * 4, rfl, ⟨hS.1, hS.2.sub (by omega) (by rw [List.length_drop]; omega)⟩, fun j hj k u hu => ?_⟩
  rw [List.length_drop] at hj
  have e : obj (l.drop i) j = obj l (i + j) := by unfold obj at_; simp only [List.getD_eq_getElem?_getD, List.getElem?_drop]
  have := hc (i + j) (by omega) k u (by show (objCells (obj l (i + j)) (lvs (i + j)))[k]? = some u; rw [← e]; exact hu)
  rw [show off + i * 4 + j * 4 + k = off + (i + j) * 4 + k by omega]; exact this
 ·rw [List.length_drop] at hj
  have e : obj (l.drop i) j = obj l (i + j) := by unfold obj at_; simp only [List.getD_eq_getElem?_getD, List.getElem?_drop]
  rw [e]; exact h5 (i + j) (by omega)
def refs2 : List Rf := [⟨⟨#[97]⟩, 9⟩, ⟨⟨#[109, 97, 105, 110]⟩, 5⟩]
def lead3 : List Mv := [⟨⟨#[97]⟩, 9, 0⟩, ⟨⟨#[109, 97, 105, 110]⟩, 5, 3⟩, ⟨⟨#[120, 47, 121]⟩, 0, 5⟩]
theorem begun_d1 : diffL shelfL (shelfL.take 3) = shelfL.drop 3 := by kernel_rfl
theorem begun_d2 : diffE shelfL (shelfL.take 3) = 0 := by decide +kernel
theorem begun_d4 : listsE namesL refs2 = 0 := by
 unfold listsE namesE risesB stepB strLt; simp only [ByteArray.toList_eq]; decide +kernel
theorem begun_d3 : refsL namesL refs2 = lead3 := by
 unfold refsL; rw [if_pos begun_d4]
 have h1 : strLt (⟨#[109, 97, 105, 110]⟩ : ByteArray) ⟨#[97]⟩ = false := by unfold strLt; simp only [ByteArray.toList_eq]; decide +kernel
 have h2 : strLt (⟨#[97]⟩ : ByteArray) ⟨#[109, 97, 105, 110]⟩ = true := by unfold strLt; simp only [ByteArray.toList_eq]; decide +kernel
 have h3 : strLt (⟨#[109, 97, 105, 110]⟩ : ByteArray) ⟨#[109, 97, 105, 110]⟩ = false := strLt_irrefl _
 simp [leadL, namesL, refs2, leadN, h1, h2, h3, lead3]
set_option maxRecDepth 100000 in
set_option maxHeartbeats 4000000 in
theorem diffBegun_any (w : World) : Calls Tryz.prog 12 #[] w fun e w' => e = .returned (.bool true) ∧ Below w.heap.size w w' := by
 obtain ⟨R, hR, hR1, _⟩ := cls_plain w
 have hRb := hR.below
 have hRn := hR.next
 have hRa := hR.alloc
 go_enter Tryz.func12, Tryz.ntmps12
 go_wp2_with fail
 refine (shelf_any _).mono ?_
 rintro e w1 ⟨v1, rfl, hv1, hb1⟩
 have hR2 := hRn _ _ hR1 hb1
 obtain ⟨a1, c1, rfl⟩ := hv1.vshape
 go_wp2_with fail
 refine (shelf_any _).mono ?_
 rintro e w2 ⟨v2, rfl, hv2, hb2⟩
 have hR3 := hRn _ _ hR2 hb2
 obtain ⟨a2, c2, hcap2, rfl⟩ : ∃ a c, 5 ≤ c ∧ v2 = .slice a shelfL.length c := let ⟨_, ⟨a, cap, hv, h1, _⟩, _⟩ := hv2; ⟨a, cap, h1, hv⟩
 have Hv1 := Lib.hid (hv1.below hb2)
 have HT := Lib.hid (hv2.take (i := 3) (by decide))
 have hc3 : (3 : Int) ≤ (c2 : Int) := by omega
 clear hv1 hv2 hb1 hb2 hR1 hR2
 go_wp2_with fail
 have hG := objects_any shelfL (shelfL.take 3) _ _ _ _ _ Hv1.out HT.out
 rw [begun_d1, begun_d2] at hG
 refine hG.mono ?_
 rintro e w3 ⟨v3, rfl, hv3, hb3⟩
 have hR4 := hRn _ _ hR3 hb3
 obtain ⟨a3, c3, rfl⟩ := hv3.vshape
 have Hv3 := Lib.hid hv3
 clear hG hv3 hb3 Hv1 HT hR3
 go_wp2_with fail
 refine (names_any _).mono ?_
 rintro e w4 ⟨v4, rfl, hv4, hb4⟩
 have hR5 := hRn _ _ hR4 hb4
 obtain ⟨⟨p4, c4⟩, rfl⟩ := hv4.shape
 have Hv4 := Lib.hid (Hv3.out.below hb4)
 have hr2 := refs_new w4 refs2 62 w4.heap.size rfl (by decide) (by
  intro r hr
  simp only [refs2, List.mem_cons, List.not_mem_nil, or_false] at hr
  rcases hr with rfl | rfl <;> exact ⟨small64 _ (by decide), by decide⟩)
 have Hr2 := Lib.hid (show RefsV (fun b => b = w4.heap.size) (w4.alloc (.cells #[.string ⟨#[97]⟩, .int .i64 9, .string ⟨#[109, 97, 105, 110]⟩, .int .i64 5] 62)) (.slice (some ⟨w4.heap.size, 0, none⟩) 2 2) refs2 from hr2)
 clear hr2 Hv3 hb4 hR4
 go_wp2_with fail
 have hG := drefs_any namesL refs2 _ _ _ _ _ (hv4.below ((Below.refl _ _).alloc (Nat.le_refl _) _)) Hr2.out
 rw [begun_d3, begun_d4] at hG
 refine hG.mono ?_
 rintro e w5 ⟨v5, rfl, hv5, hb5⟩
 have hb5' := below_next ((Below.refl w4.heap.size w4).alloc (Nat.le_refl _) (.cells #[.string ⟨#[97]⟩, .int .i64 9, .string ⟨#[109, 97, 105, 110]⟩, .int .i64 5] 62)) hb5
 have hR6 := hRn _ _ hR5 hb5'
 obtain ⟨⟨p5, c5⟩, rfl⟩ := hv5.shape
 have Hv5 := Lib.hid hv5
 have Hs5 := Lib.hid (Hv4.out.below hb5')
 clear hG hv5 hb5 hb5' Hv4 Hr2 hR5 hv4
 go_wp2_with fail
 refine (shelf_any _).mono ?_
 rintro e w6 ⟨v6, rfl, hv6, hb6⟩
 have hR7 := hRn _ _ hR6 hb6
 obtain ⟨b6, off6, c6, hcap6, rfl⟩ : ∃ b off c, 5 ≤ c ∧ v6 = .slice (some ⟨b, off, none⟩) shelfL.length c := let ⟨_, ⟨a, cap, hv, h1, _, _, h4⟩, _⟩ := hv6; let ⟨b, off, e, _⟩ := h4 (by decide); ⟨b, off, cap, h1, by rw [hv, e]⟩
 have HD := Lib.hid (store_from hv6 (i := 3) (by decide))
 have Hs6 := Lib.hid (Hs5.out.below hb6)
 have Hv6 := Lib.hid (Hv5.out.below hb6)
 have hc5 : ¬ c6 = 3 := by omega
 have hc6 : (3 : Int) ≤ (c6 : Int) := by omega
 clear hv6 hb6 Hs5 Hv5 hR6
 go_wp2_with fail
 have hG := sameStore_any (shelfL.drop 3) (shelfL.drop 3) _ _ _ _ _ Hs6.out HD.out
 rw [sameStore_refl] at hG
 refine hG.mono ?_
 rintro e w7 ⟨rfl, hb7⟩
 have hR8 := hRn _ _ hR7 hb7
 have Hv7 := Lib.hid (Hv6.out.below hb7)
 have hl3 := mvs_fresh w7 lead3 107 w7.heap.size rfl (by decide) (by
  intro r hr
  simp only [lead3, List.mem_cons, List.not_mem_nil, or_false] at hr
  rcases hr with rfl | rfl | rfl <;> exact ⟨small64 _ (by decide), small64 _ (by decide), by decide⟩)
 have Hl3 := Lib.hid (show MvsV (fun b => b = w7.heap.size) (w7.alloc (.cells #[.string ⟨#[97]⟩, .int .i64 9, .int .i64 0, .string ⟨#[109, 97, 105, 110]⟩, .int .i64 5, .int .i64 3, .string ⟨#[120, 47, 121]⟩, .int .i64 0, .int .i64 5] 107)) (.slice (some ⟨w7.heap.size, 0, none⟩) 3 3) lead3 from hl3)
 clear hG hb7 hR7 hl3 Hv6 Hs6 HD
 go_wp2_with fail
 have hG := sameUpdates_any lead3 lead3 _ _ _ _ _ (Hv7.out.below ((Below.refl _ _).alloc (Nat.le_refl _) _)) Hl3.out
 rw [(sameMvs_iff lead3 lead3).2 rfl] at hG
 refine hG.mono ?_
 rintro e w8 ⟨rfl, hb8⟩
 have hb8' := below_next ((Below.refl w7.heap.size w7).alloc (Nat.le_refl _) (.cells #[.string ⟨#[97]⟩, .int .i64 9, .int .i64 0, .string ⟨#[109, 97, 105, 110]⟩, .int .i64 5, .int .i64 3, .string ⟨#[120, 47, 121]⟩, .int .i64 0, .int .i64 5] 107)) hb8
 have hR9 := hRn _ _ hR8 hb8'
 clear hG hb8 hb8'
 go_wp2_with fail
 go_ret
 exact ⟨rfl, hRb _ hR9⟩
end Go.Proofs.YtjdgpgfiomnjkaaGreatDoor
