
/- DiffC: walks of diff.Refs. -/
import Derived.Test.YtkaoldnhooojiaaGreatDoorDiffB
import Derived.Test.YtkaoldnhooojiaaGreatDoorRowUS
import Derived.Test.YtkaoldnhooojiaaGreatDoorShelf
import Derived.Test.YtkaoldnhooojiaaGreatDoorLaysortU
import Derived.Shelf.SlSortCmp.NoneTotal
namespace Go.Proofs.YtkaoldnhooojiaaGreatDoor
open Go.RowKit
set_option linter.unusedVariables false
set_option linter.unusedSimpArgs false

set_option maxHeartbeats 1000000 in
theorem drefs1_any (x y : Mv) (W : World) :
    Calls Tryz.prog 53 #[.agg #[.string x.name, .int .i64 x.old, .int .i64 x.new], .agg #[.string y.name, .int .i64 y.old, .int .i64 y.new]] W
      fun e w' => e = .returned (.int .i64 (cmpS x.name y.name)) ∧ ∃ q os', w' = Go.Sort.grow (W.drewN q) os' := by
  have hcon := fun W' => Tryz.strings_Compare x.name y.name W'
  unfold cmpS
  generalize Lib.compareBytes x.name.data.toList y.name.data.toList = r at hcon ⊢
  go_enter Tryz.func53, Tryz.ntmps53
  go_wp2_with fail
  refine (hcon _).mono ?_
  rintro e w' ⟨rfl, rfl⟩
  go_wp2_with fail
  go_ret
  exact ⟨rfl, 0, _, by rw [Go.Sort.alloc_eq_grow, Go.Sort.alloc_eq_grow, Go.Sort.grow_grow]; rfl⟩

theorem cmpLaysU (blk off size : Nat) (w : World) : Go.Proofs.CmpLays Tryz.prog 53 #[] mvCells 3 (fun a b => cmpS a.name b.name) blk off size w :=
  fun _ _ _ _ x y => drefs1_any x y _

set_option maxRecDepth 100000 in
/-- slices.SortFunc of updates, by name -/
theorem sortU_any {B : Nat} {w : World} {v : Value} {l : List Mv} (h : OwnU B w v l) (hl : l.length ≤ 1000) (hB : B ≤ w.heap.size) :
    Calls Tryz.prog 52 #[v, .func (.func 53) #[] #[]] w
      fun e w' => e = .returned (.tuple #[]) ∧ ∃ d : List Mv, d.Perm l ∧ (d.Pairwise fun a b => strLt b.name a.name = false) ∧ MvsV (fun b => B ≤ b) w' v d ∧ Below B w w' := by
  by_cases h0 : l.length = 0
  · obtain rfl : l = [] := List.length_eq_zero_iff.1 h0
    have hm := h.mvs (by simp)
    obtain ⟨a, c, rfl⟩ := h.shape
    refine (Go.Proofs.AnyF.slices_SortFunc_none Tryz.sortU a c _ w).mono ?_
    rintro e w' ⟨rfl, rfl⟩
    exact ⟨rfl, [], List.Perm.refl _, List.Pairwise.nil, hm.weaken fun _ h => h.1, Below.refl _ _⟩
  · obtain ⟨g, cap, rfl⟩ : ∃ g cap, v = .slice (some ⟨g, 0, none⟩) l.length cap := by
      rcases h.1.2 with ⟨rfl, hn⟩ | ⟨g, cap, cur, rfl, _⟩
      · omega
      · exact ⟨g, cap, rfl⟩
    have eg : ∀ args w, (callFunc 53 args).run Tryz.prog w = .ok (.enter 53 args) w := fun _ _ => rfl
    have hb := h.block (g := g) rfl
    have hcon := Go.Proofs.AnyQ.slices_SortFunc Tryz.sortU 3 Tryz.isAgg36 Tryz.sizeOf36 mvCells (fun _ => rfl) (fun x => one_mv x) (fun a b => cmpS a.name b.name) swoN 53 #[] g 0 cap l.toArray w eg (cmpLaysU _ _ _ _) (own_holds h) hb.2 (by simp; omega)
    refine (show Calls Tryz.prog 52 #[.slice (some ⟨g, 0, none⟩) l.length cap, .func (.func 53) #[] #[]] w _ from hcon).mono ?_
    rintro e w' ⟨rfl, d, m, os, hp, hs, rfl⟩
    obtain ⟨e1, e2, e3⟩ := sort_lists hp hs
    refine ⟨rfl, d.toList, e2, e3, own_sorted h (by omega) e1 (fun u hu => h.2 u (e2.mem_iff.1 hu)), (sort_upd w g m d os).below hB (fun b e => by rw [e]; exact hb.1)⟩

/-- updates come back beside an errno -/
def RetMvsE (w w' : World) (e : Ending) (l : List Mv) (c : Int) : Prop := ∃ v, e = .returned (.tuple #[v, .int .i64 c]) ∧ MvsV (fun _ => True) w' v l ∧ Below w.heap.size w w'

theorem lists_ok {l m : List Rf} (h : listsE l m = 0) : l.length ≤ 8 ∧ m.length ≤ 8 ∧ Asc l ∧ Asc m := by
  unfold listsE at h
  by_cases h8 : 8 < l.length ∨ 8 < m.length
  · rw [if_pos h8] at h; cases h
  · rw [if_neg h8] at h
    by_cases h1 : namesE l = 0
    · by_cases h2 : namesE m = 0
      · rw [if_neg (by simpa using h1), if_neg (by simpa using h2)] at h
        by_cases h3 : risesB l = true ∧ risesB m = true
        · exact ⟨by omega, by omega, rises_asc h3.1, rises_asc h3.2⟩
        · rw [if_neg h3] at h; cases h
      · rw [if_neg (by simpa using h1), if_pos (by simpa using h2)] at h; exact absurd h h2
    · rw [if_pos (by simpa using h1)] at h; exact absurd h h1

set_option maxRecDepth 100000 in
set_option maxHeartbeats 4000000 in
theorem drefs_any (l m : List Rf) (v u : Value) (S S' : Nat → Prop) (w : World) (h : RefsV S w v l) (hm : RefsV S' w u m) :
    Calls Tryz.prog 22 #[v, u] w fun e w' => RetMvsE w w' e (refsL l m) (listsE l m) := by
  have hb0 : Below w.heap.size w (w.alloc (.cells #[v, u] 22)) := (Below.refl _ _).alloc (Nat.le_refl _) _
  have HB := Lib.hid (dboth_any l m v u S S' w.heap.size (w.alloc (.cells #[v, u] 22)) (h.below hb0) (hm.below hb0) (heap_alloc_new w _))
  have Hl := Lib.hid h
  have Hm := Lib.hid hm
  obtain ⟨a, n, cap, HN, rfl, h1, h2, h3, h4, h5⟩ := h.open
  obtain ⟨ma, n', mcap, HN', rfl, d1, d2, d3, d4, d5⟩ := hm.open
  have H5 := Lib.hid h5
  have D5 := Lib.hid d5
  clear h hm h5 d5
  obtain ⟨R, hR, hR1, hRall⟩ := cls_plain w
  have hRb := hR.below
  have hRn := hR.next
  have hRa := hRall _ hb0
  have HL := Lib.hid (show refsL l m = if listsE l m = 0 then leadL l m else [] from rfl)
  by_cases he : listsE l m = 0
  · obtain ⟨h8, d8, hal, ham⟩ := lists_ok he
    have HE := Lib.hid (show refsL l m = leadL l m by rw [HL.out, if_pos he])
    rw [he] at HB
    rw [he, HE.out]
    have Hal := Lib.hid hal
    have Ham := Lib.hid ham
    have hn8 : n ≤ 8 := by rw [HN.out]; exact h8
    have hd8 : n' ≤ 8 := by rw [HN'.out]; exact d8
    have HA0 := Lib.hid (show movesA l m 0 = [] from rfl)
    have HAn := Lib.hid (fun k => show movesA l m (k + 1) = if goneB m (rf l k) = true then movesA l m k ++ [⟨(rf l k).name, idOf m (rf l k).name, (rf l k).id⟩] else movesA l m k from rfl)
    have HAl := Lib.hid (movesA_length l m)
    have HH := Lib.hid (fun x (hx : In R x) (w5 : World) (v : Value) (hu5 : Upd (fun b => Value.ownBlock v = some b) x w5) (hv : ∀ g, Value.ownBlock v = some g → w.heap.size ≤ g) => show In R w5 from hRall _ ((hRb _ hx).trans (hu5.below (B := w.heap.size) (hRb _ hx).size (fun b hb => hv b hb))))
    have HBo := Lib.hid hb0
    clear HL HE he h8 d8 hal ham hb0
    go_enter Tryz.func22, Tryz.ntmps22
    go_wp2_with fail
    refine HB.out.mono ?_
    rintro e w1 ⟨rfl, hb1⟩
    have hR2 := hRall _ (below_next HBo.out hb1)
    clear hb1 hR1 hRa HB
    go_wp2_with fail
    go_loopw [7, 23] (fun v i wr => ∃ k : Nat, k ≤ n ∧ i = .int .i64 k ∧ Hid (OwnU w.heap.size wr v (movesA l m k)) ∧ In R wr) (fun _ i _ => n - (intOf i).toNat)
    case atStart => exact ⟨0, by omega, rfl, by rw [HA0.out]; exact OwnU.nil _ _, hR2⟩
    case round =>
      obtain ⟨k, hk, rfl, HG0, hRw⟩ := hrel
      clear hR2
      obtain ⟨va, vc, hvs⟩ := HG0.out.shape
      obtain ⟨vn, hvn⟩ : ∃ vn, vn = (movesA l m k).length := ⟨_, rfl⟩
      have Hl2 := Lib.hid (show (movesA l m k).length ≤ 8 by have := HAl.out k; omega)
      rw [← hvn] at hvs
      clear hvn
      subst hvs
      by_cases hlt : k < n
      · obtain ⟨b, off, rfl, hb, k0, k1⟩ := h4 (by omega)
        have x0 := k0 k wr hlt (hRb _ hRw)
        have x1 := k1 k wr hlt (hRb _ hRw)
        clear h4 k0 k1
        obtain ⟨Q, hQ, hQ1, hy⟩ := cls_box wr #[.string (rf l k).name, .int .i64 (rf l k).id] 40
        have y0 := hy 0 _ rfl
        have y1 := hy 1 _ rfl
        have y01 := y0 _ hQ1
        have hQR := Lib.hid (fun x (hx : In Q x) => hRn _ _ hRw (hQ.below x hx))
        have hi1 : (0 : Int) ≤ (k : Int) := by omega
        have hi2 : (k : Int) < (n : Int) := by omega
        have Hok := Lib.hid (H5.out k hlt)
        have Hf := Lib.hid (fun x (hx : In Q x) => find_any m _ S' (rf l k).name x (Hm.out.below (hRb _ (hQR.out _ hx))))
        have Han := Lib.hid (HAn.out k)
        clear hy
        by_cases hf : findRf m (rf l k).name = -1
        · have Hon := Lib.hid (show movesA l m (k + 1) = movesA l m k ++ [⟨(rf l k).name, 0, (rf l k).id⟩] by
            rw [Han.out, if_pos (show goneB m (rf l k) = true by unfold goneB; simp [hf])]
            have : idOf m (rf l k).name = 0 := by unfold idOf; rw [if_pos hf]
            rw [this])
          rw [hf] at Hf
          clear hf
          go_wp2_with fail
          refine (Hf.out _ hQ1).mono ?_
          rintro e w4 ⟨rfl, hb4⟩
          have hQ4 := hQ.next _ _ hQ1 hb4
          have hR4 := hQR.out _ hQ4
          have hBs := (hRb _ hR4).size
          have HG := Lib.hid (HG0.out.below (below_next (hQ.below _ hQ1) hb4))
          have y04 := y0 _ hQ4
          have y14 := y1 _ hQ4
          clear hb4 y01 x0 x1 HG0
          go_wp2_with (at_builtin; refine wpList_append_mv (p := ⟨(rf l k).name, 0, (rf l k).id⟩) rfl _ _ rfl HG.out ⟨(show I64 0 from by constructor <;> decide), Hok.out.1, Hok.out.2⟩ (by have := Hl2.out; omega) hBs rfl rfl (by first | rfl | simp) ?_)
          intro v' w5 hG5 hu5
          have hR5 := HH.out _ hR4 w5 _ hu5 (fun g hg => (HG.out.block hg).1)
          have HG5 := Lib.hid hG5
          obtain ⟨pv, hpv⟩ : ∃ p : Option Addr × Nat × Nat, v' = .slice p.1 p.2.1 p.2.2 := let ⟨a, c, h⟩ := hG5.shape; ⟨(a, _, c), h⟩
          clear hG5 hu5
          subst hpv
          go_wp2_with fail
          go_roundw
          case rel => exact ⟨k + 1, by omega, by go_num, by rw [Hon.out]; exact HG5.out, hR5⟩
          case measure => simp [intOf]; omega
        · obtain ⟨k2, hk2, hfk, hkn⟩ := find_some hf
          have HI := Lib.hid (show idOf m (rf l k).name = (rf m k2).id by unfold idOf; rw [if_neg hf, hfk]; rfl)
          have hkn2 : k2 < n' := by rw [HN'.out]; exact hk2
          have hgo := show goneB m (rf l k) = decide ((rf m k2).id ≠ (rf l k).id) by unfold goneB; rw [HI.out]; simp [hf]
          rw [hfk] at Hf
          obtain ⟨mb, moff, rfl, hmb, q0, q1⟩ := d4 (by omega)
          have z1 := fun x (hx : In R x) => q1 k2 x hkn2 (hRb x hx)
          have hj1 : (0 : Int) ≤ (k2 : Int) := by omega
          have hj2 : (k2 : Int) < (n' : Int) := by omega
          have hj3 : decide ((k2 : Int) < 0) = false := decide_eq_false (by omega)
          have hj4 : decide ((0 : Int) ≤ (k2 : Int)) = true := decide_eq_true (by omega)
          have Dok := Lib.hid (D5.out k2 hkn2)
          rw [hgo] at Han
          clear hf hfk hkn d4 q0 q1 hgo hk2
          by_cases hid : (rf m k2).id = (rf l k).id
          · have Hon := Lib.hid (show movesA l m (k + 1) = movesA l m k by rw [Han.out, if_neg (by simp [hid])])
            have hq : ((rf m k2).id != (rf l k).id) = false := by simp [hid]
            clear hid
            go_wp2_with fail
            refine (Hf.out _ hQ1).mono ?_
            rintro e w4 ⟨rfl, hb4⟩
            have hQ4 := hQ.next _ _ hQ1 hb4
            have hR4 := hQR.out _ hQ4
            have hBs := (hRb _ hR4).size
            have HG := Lib.hid (HG0.out.below (below_next (hQ.below _ hQ1) hb4))
            have y04 := y0 _ hQ4
            have y14 := y1 _ hQ4
            clear hb4 y01 x0 x1 HG0
            have z14 := z1 _ hR4
            go_wp2_with fail
            go_roundw
            case rel => exact ⟨k + 1, by omega, by go_num, by rw [Hon.out]; exact HG.out, hR4⟩
            case measure => simp [intOf]; omega
          · have Hon := Lib.hid (show movesA l m (k + 1) = movesA l m k ++ [⟨(rf l k).name, (rf m k2).id, (rf l k).id⟩] by rw [Han.out, if_pos (by simp [hid]), HI.out])
            have hq : ((rf m k2).id != (rf l k).id) = true := by simp [hid]
            clear hid
            go_wp2_with fail
            refine (Hf.out _ hQ1).mono ?_
            rintro e w4 ⟨rfl, hb4⟩
            have hQ4 := hQ.next _ _ hQ1 hb4
            have hR4 := hQR.out _ hQ4
            have hBs := (hRb _ hR4).size
            have HG := Lib.hid (HG0.out.below (below_next (hQ.below _ hQ1) hb4))
            have y04 := y0 _ hQ4
            have y14 := y1 _ hQ4
            clear hb4 y01 x0 x1 HG0
            have z14 := z1 _ hR4
            go_wp2_with (at_builtin; refine wpList_append_mv (p := ⟨(rf l k).name, (rf m k2).id, (rf l k).id⟩) rfl _ _ rfl HG.out ⟨Dok.out.1, Hok.out.1, Hok.out.2⟩ (by have := Hl2.out; omega) hBs rfl rfl (by first | rfl | simp) ?_)
            intro v' w5 hG5 hu5
            have hR5 := HH.out _ hR4 w5 _ hu5 (fun g hg => (HG.out.block hg).1)
            have HG5 := Lib.hid hG5
            obtain ⟨pv, hpv⟩ : ∃ p : Option Addr × Nat × Nat, v' = .slice p.1 p.2.1 p.2.2 := let ⟨a, c, h⟩ := hG5.shape; ⟨(a, _, c), h⟩
            clear hG5 hu5
            subst hpv
            go_wp2_with fail
            go_roundw
            case rel => exact ⟨k + 1, by omega, by go_num, by rw [Hon.out]; exact HG5.out, hR5⟩
            case measure => simp [intOf]; omega
      · obtain rfl : k = n := by omega
        have HB0 := Lib.hid (show movesB l m (movesA l m k) 0 = movesA l m k from rfl)
        have HBn := Lib.hid (fun j => show movesB l m (movesA l m k) (j + 1) = if findRf l (rf m j).name = -1 then movesB l m (movesA l m k) j ++ [⟨(rf m j).name, (rf m j).id, 0⟩] else movesB l m (movesA l m k) j from rfl)
        have HBl := Lib.hid (fun j => movesB_length l m (movesA l m k) j)
        have HBe := Lib.hid (show movesB l m (movesA l m k) n' = movesL l m by rw [HN.out, HN'.out]; rfl)
        go_wp2_with fail
        go_loopw [7, 58] (fun v i wr => ∃ j : Nat, j ≤ n' ∧ i = .int .i64 j ∧ Hid (OwnU w.heap.size wr v (movesB l m (movesA l m k) j)) ∧ In R wr) (fun _ i _ => n' - (intOf i).toNat)
        case atStart => exact ⟨0, by omega, rfl, by rw [HB0.out]; exact HG0.out, hRw⟩
        case round =>
          obtain ⟨j, hj, rfl, HG1, hRx⟩ := hrel
          clear hRw HG0
          obtain ⟨va, vc, hvs⟩ := HG1.out.shape
          obtain ⟨vn, hvn⟩ : ∃ vn, vn = (movesB l m (movesA l m k) j).length := ⟨_, rfl⟩
          have Hl3 := Lib.hid (show (movesB l m (movesA l m k) j).length ≤ 16 by have := HBl.out j; have := Hl2.out; omega)
          rw [← hvn] at hvs
          have Hvn := Lib.hid hvn
          clear hvn
          subst hvs
          by_cases hlt : j < n'
          · obtain ⟨mb, moff, rfl, hmb, q0, q1⟩ := d4 (by omega)
            have x0 := q0 j wr hlt (hRb _ hRx)
            have x1 := q1 j wr hlt (hRb _ hRx)
            clear d4 q0 q1
            obtain ⟨Q, hQ, hQ1, hy⟩ := cls_box wr #[.string (rf m j).name, .int .i64 (rf m j).id] 40
            have y0 := hy 0 _ rfl
            have y1 := hy 1 _ rfl
            have y01 := y0 _ hQ1
            have hQR := Lib.hid (fun x (hx : In Q x) => hRn _ _ hRx (hQ.below x hx))
            have hi1 : (0 : Int) ≤ (j : Int) := by omega
            have hi2 : (j : Int) < (n' : Int) := by omega
            have Hok := Lib.hid (D5.out j hlt)
            have Hf := Lib.hid (fun x (hx : In Q x) => find_any l _ S (rf m j).name x (Hl.out.below (hRb _ (hQR.out _ hx))))
            have Hbn := Lib.hid (HBn.out j)
            clear hy
            by_cases hf : findRf l (rf m j).name = -1
            · have Hon := Lib.hid (show movesB l m (movesA l m k) (j + 1) = movesB l m (movesA l m k) j ++ [⟨(rf m j).name, (rf m j).id, 0⟩] by rw [Hbn.out, if_pos hf])
              rw [hf] at Hf
              clear hf
              go_wp2_with fail
              refine (Hf.out _ hQ1).mono ?_
              rintro e w4 ⟨rfl, hb4⟩
              have hQ4 := hQ.next _ _ hQ1 hb4
              have hR4 := hQR.out _ hQ4
              have hBs := (hRb _ hR4).size
              have HG := Lib.hid (HG1.out.below (below_next (hQ.below _ hQ1) hb4))
              have y04 := y0 _ hQ4
              have y14 := y1 _ hQ4
              clear hb4 y01 x0 x1 HG1
              go_wp2_with (at_builtin; refine wpList_append_mv (p := ⟨(rf m j).name, (rf m j).id, 0⟩) rfl _ _ rfl HG.out ⟨Hok.out.1, (show I64 0 from by constructor <;> decide), Hok.out.2⟩ (by have := Hl3.out; omega) hBs rfl rfl (by first | rfl | simp) ?_)
              intro v' w5 hG5 hu5
              have hR5 := HH.out _ hR4 w5 _ hu5 (fun g hg => (HG.out.block hg).1)
              have HG5 := Lib.hid hG5
              obtain ⟨pv, hpv⟩ : ∃ p : Option Addr × Nat × Nat, v' = .slice p.1 p.2.1 p.2.2 := let ⟨a, c, h⟩ := hG5.shape; ⟨(a, _, c), h⟩
              clear hG5 hu5
              subst hpv
              go_wp2_with fail
              go_roundw
              case rel => exact ⟨j + 1, by omega, by go_num, by rw [Hon.out]; exact HG5.out, hR5⟩
              case measure => simp [intOf]; omega
            · have Hon := Lib.hid (show movesB l m (movesA l m k) (j + 1) = movesB l m (movesA l m k) j by rw [Hbn.out, if_neg hf])
              have hfd : decide (findRf l (rf m j).name < 0) = false := decide_eq_false (by obtain ⟨k2, _, hfk, _⟩ := find_some hf; rw [hfk]; omega)
              clear hf
              generalize findRf l (rf m j).name = fi at *
              go_wp2_with fail
              refine (Hf.out _ hQ1).mono ?_
              rintro e w4 ⟨rfl, hb4⟩
              have hQ4 := hQ.next _ _ hQ1 hb4
              have hR4 := hQR.out _ hQ4
              have hBs := (hRb _ hR4).size
              have HG := Lib.hid (HG1.out.below (below_next (hQ.below _ hQ1) hb4))
              have y04 := y0 _ hQ4
              have y14 := y1 _ hQ4
              clear hb4 y01 x0 x1 HG1
              go_wp2_with fail
              go_roundw
              case rel => exact ⟨j + 1, by omega, by go_num, by rw [Hon.out]; exact HG.out, hR4⟩
              case measure => simp [intOf]; omega
          · obtain rfl : j = n' := by omega
            have HS := Lib.hid (sortU_any HG1.out (by have := Hl3.out; omega) (hRb _ hRx).size)
            have HS2 := HS.out
            go_wp2_with fail
            refine HS2.mono ?_
            rintro e w3 ⟨rfl, d, hp, hs, hv, hb3⟩
            have hR3 := hRall _ ((hRb _ hRx).trans hb3)
            rw [HBe.out] at hp
            have hd := sorted_lead Hal.out Ham.out hp hs
            subst hd
            go_wp2_with fail
            go_ret2
            exact ⟨_, rfl, hv.weaken fun _ _ => trivial, hRb _ hR3⟩
  · have hq : (listsE l m != 0) = true := by simpa using he
    have HE := Lib.hid (show refsL l m = [] by rw [HL.out, if_neg he])
    have HBo := Lib.hid hb0
    rw [HE.out]
    clear HL HE he h4 d4 hb0
    generalize listsE l m = c at *
    go_enter Tryz.func22, Tryz.ntmps22
    go_wp2_with fail
    refine HB.out.mono ?_
    rintro e w1 ⟨rfl, hb1⟩
    have hb2 := below_next HBo.out hb1
    go_wp2_with fail
    go_ret2
    exact ⟨_, rfl, MvsV.nil _ _ _ _ (by omega), hb2⟩
end Go.Proofs.YtkaoldnhooojiaaGreatDoor
