
/- WalkB: Walk6, Walk7, Walk8, Walk9. -/
import Derived.Test.YtgkbalhkjolnmaaGreatDoorL3
import Derived.Test.YtgkbalhkjolnmaaGreatDoorL1
import Derived.Test.YtgkbalhkjolnmaaGreatDoorL2
namespace Go.Proofs.YtgkbalhkjolnmaaGreatDoor
open Go.RowKit
set_option linter.unusedVariables false
set_option linter.unusedSimpArgs false
def partTo (l : List Obj) (M : Nat → Bool) (k : Nat) : List Obj := ((List.range k).filter M).map (obj l)
theorem partTo_yes {l : List Obj} {M : Nat → Bool} {k : Nat} (h : M k = true) : partTo l M (k + 1) = partTo l M k ++ [obj l k] := by
 unfold partTo; rw [List.range_succ, List.filter_append, List.map_append]; simp [h]
theorem partTo_no {l : List Obj} {M : Nat → Bool} {k : Nat} (h : M k = false) : partTo l M (k + 1) = partTo l M k := by
 unfold partTo; rw [List.range_succ, List.filter_append, List.map_append]; simp [h]
theorem partTo_length (l : List Obj) (M : Nat → Bool) (k : Nat) : (partTo l M k).length ≤ k := by
 unfold partTo; rw [List.length_map]; exact Nat.le_trans (List.length_filter_le _ _) (by simp)
def partRes (l : List Obj) (tips : List Int) : List Obj := if thereErr l tips = 0 then partOf l tips else []
def RetStoreE (w w' : World) (e : Ending) (l : List Obj) (c : Int) : Prop := ∃ v, e = .returned (.tuple #[v, .int .i64 c]) ∧ StoreV (fun _ => True) w' v l ∧ Below w.heap.size w w'
set_option maxRecDepth 100000 in
set_option maxHeartbeats 4000000 in
theorem part_any (l : List Obj) (tips : List Int) (lv tv : Value) (S S' : Nat → Prop) (w : World) (h : StoreV S w lv l) (ht : IntsV S' w tv tips) :
  Calls Tryz.prog 24 #[lv, tv] w fun e w' => RetStoreE w w' e (partRes l tips) (thereErr l tips) := by
 have h' := h
 have Hth := Lib.hid (there_any l tips _ _ S S' w h ht)
 obtain ⟨a, n, cap, la, ln, lc, HN, rfl, h1, h2, h3, h4, h5⟩ := h.open
 clear h4 h5 h
 obtain ⟨⟨tp, tc⟩, rfl⟩ := ht.shape
 by_cases hz : thereErr l tips = 0
 ·obtain ⟨hcs, hids⟩ := there_zero hz
  have HR := Lib.hid (right_of hcs)
  have Hpl := Lib.hid (show ∀ k, k < tips.length → ∃ i, i < l.length ∧ (obj l i).id = nth tips k from fun k hk => by
   have := hids (nth tips k) (by rw [nth_lt hk]; exact List.getElem_mem hk)
   obtain ⟨j, hj, hid, _⟩ := kind_place this
   exact ⟨j, hj, hid⟩)
  have Hres := Lib.hid (show partRes l tips = partTo l (reachB l false tips) l.length by unfold partRes; rw [if_pos hz]; rfl)
  have Hz := Lib.hid hz
  rw [hz] at Hth ⊢
  have hn40 : n ≤ 40 := by rw [HN.out.1]; exact HR.out.many
  clear hz hcs hids
  go_enter Tryz.func24, Tryz.ntmps24
  go_wp2_with fail
  refine Hth.out.mono ?_
  rintro e w1 ⟨rfl, hb1⟩
  go_wp2_with fail
  refine (walk_any l false tips _ all_any (fun _ _ => rfl) HR.out S S' _ _ _ (h'.below hb1) (ht.below hb1) (fun k hk => let ⟨i, a, b⟩ := Hpl.out k hk; ⟨i, a, b, (fun e => by cases e)⟩)).mono ?_
  rintro e w2 ⟨bw, bm, M, rfl, hwk, hM, hb2⟩
  have Hb12 := Lib.hid (below_next hb1 hb2)
  have Hwk := Lib.hid hwk
  have HM := Lib.hid hM
  obtain ⟨R, hR, hR1, hRall⟩ := cls_plain w2
  have hRb := hR.below
  have hRn := hR.next
  clear hwk hM hb1 hb2
  go_wp2_with fail
  go_loopw [8, 22] (fun v i wr => ∃ k : Nat, k ≤ n ∧ i = .int .i64 k ∧ Hid (Gath w2.heap.size wr v (partTo l (reachB l false tips) k)) ∧ In R wr) (fun _ i _ => n - (intOf i).toNat)
  case atStart => exact ⟨0, by omega, rfl, Gath.nil _ _, hR1⟩
  case round =>
   obtain ⟨k, hk, rfl, HG, hRw⟩ := hrel
   clear hR1
   by_cases hlt : k < n
   ·obtain ⟨a5, n5, c5, la5, ln5, lc5, HN5, e5, _, _, _, h45, h55⟩ := (h'.below (Hb12.out)).open
    cases e5
    obtain ⟨b, off, rfl, hb, k0, k1, k2, k3⟩ := h45 (by omega)
    have x0 := k0 k wr hlt (hRb _ hRw)
    have x1 := k1 k wr hlt (hRb _ hRw)
    have x2 := k2 k wr hlt (hRb _ hRw)
    have x3 := k3 k wr hlt (hRb _ hRw)
    have Ho := Lib.hid (h55 k hlt)
    clear h45 h55 k0 k1 k2 k3 HN5
    obtain ⟨Q, hQ, hQ1, y0, y1, y2, y3⟩ := cls_box4 wr (.int .i64 (obj l k).id) (.int .i64 (obj l k).kind) (.slice (la5 k) (ln5 k) (lc5 k)) (.string (obj l k).text) 107
    have hQR : ∀ x, In Q x → In R x := fun x hx => hRn _ _ hRw (hQ.below x hx)
    have hwq := Hwk.out.below (hRb _ (hQR _ hQ1))
    have c1 := block_cell (j := 1) hwq.1 rfl
    have cm := block_cell (j := k) hwq.2 (markRow_get (by rw [← HN.out.1]; exact hlt))
    rw [HM.out k (by rw [← HN.out.1]; exact hlt)] at cm
    rw [← HN.out.1] at c1
    obtain ⟨va, vc, hvs⟩ := HG.out.shape
    subst hvs
    have hi1 : (0 : Int) ≤ (k : Int) := by omega
    have hi2 : (k : Int) < (n : Int) := by omega
    clear hwq
    cases hq : reachB l false tips k
    ·rw [hq] at cm
     have HG2 := Lib.hid (show Gath w2.heap.size (wr.alloc (.cells #[.int .i64 (obj l k).id, .int .i64 (obj l k).kind, .slice (la5 k) (ln5 k) (lc5 k), .string (obj l k).text] 107)) _ (partTo l (reachB l false tips) (k + 1)) by
      rw [partTo_no hq]; exact HG.out.below ((Below.refl _ _).alloc (Nat.le_refl _) _))
     have hRq := hQR _ hQ1
     go_wp2_with fail
     go_roundw
     case rel => exact ⟨k + 1, by omega, by go_num, HG2, hRq⟩
     case measure => simp [intOf]; omega
    ·rw [hq] at cm
     have y00 := y0 _ hQ1
     have y10 := y1 _ hQ1
     have y20 := y2 _ hQ1
     have y30 := y3 _ hQ1
     clear y0 y1 y2 y3
     go_wp2_with fail
     refine (own_any (obj l k) _ S _ (Ho.out.below (hRb _ (hQR _ hQ1)))).mono ?_
     rintro e w4 ⟨lv4, rfl, ho4, hb4⟩
     obtain ⟨⟨p4, c4⟩, rfl⟩ := ho4.1.shape
     have hR4 := hRn _ _ (hQR _ hQ1) hb4
     have HGq := Lib.hid (HG.out.below (hQ.below _ hQ1))
     have HG4 := Lib.hid (HGq.out.below hb4)
     have Hsep := Lib.hid (show ∀ b, (w.heap.size ≤ b ∧ (wr.alloc (.cells #[.int .i64 (obj l k).id, .int .i64 (obj l k).kind, .slice (la5 k) (ln5 k) (lc5 k), .string (obj l k).text] 107)).heap.size ≤ b) ∧ b < w4.heap.size → b < w4.heap.size ∧ (Value.slice va (partTo l (reachB l false tips) k).length vc).ownBlock ≠ some b from
      fun b hb => ⟨hb.2, fun e => by have := (HGq.out.block e).2; omega⟩)
     have Ho4 := Lib.hid (show ObjIs (fun b => (w.heap.size ≤ b ∧ (wr.alloc (.cells #[.int .i64 (obj l k).id, .int .i64 (obj l k).kind, .slice (la5 k) (ln5 k) (lc5 k), .string (obj l k).text] 107)).heap.size ≤ b) ∧ b < w4.heap.size) w4 (obj l k) (.slice p4 (obj l k).links.length c4) from
      ho4.lt.weaken (fun b hb => ⟨⟨by have h1 := hb.1; have h2 := (hRb _ (hQR _ hQ1)).size; have h3 := Hb12.out.size; omega, hb.1⟩, hb.2⟩))
     have hpl := partTo_length l (reachB l false tips) k
     clear ho4 hb4 x0 x1 x2 x3 y00 y10 y20 y30 c1 cm
     go_wp2_with (at_builtin; refine wpList_append_obj rfl _ _ rfl HG4.out Ho4.out rfl Hsep.out (by omega) (by have := (hRb _ hR4).size; omega) rfl rfl (by first | rfl | simp) ?_)
     intro v' w5 hG5 hu5
     have hR5 : In R w5 := hRall _ ((hRb _ hR4).trans (hu5.below (B := w2.heap.size) (hRb _ hR4).size (fun b hb => (HG4.out.block hb).1)))
     have HG5 := Lib.hid (show Gath w2.heap.size w5 v' (partTo l (reachB l false tips) (k + 1)) by rw [partTo_yes hq]; exact hG5)
     obtain ⟨va', vc', hvs'⟩ := hG5.shape
     subst hvs'
     clear hG5 hu5
     go_wp2_with fail
     go_roundw
     case rel => exact ⟨k + 1, by omega, by go_num, HG5, hR5⟩
     case measure => simp [intOf]; omega
   ·obtain rfl : k = n := by omega
    obtain ⟨va, vc, hvs⟩ := HG.out.shape
    have hpl := partTo_length l (reachB l false tips) k
    have HSt := Lib.hid (HG.out.store (by omega))
    subst hvs
    go_wp2_with fail
    go_ret2
    refine ⟨_, rfl, ?_, Hb12.out.trans ((hRb _ hRw).mono Hb12.out.size)⟩
    rw [Hres.out, ← HN.out.1]; exact HSt.out
 ·have Hres := Lib.hid (show partRes l tips = [] by unfold partRes; rw [if_neg hz])
  have hz' : (thereErr l tips != 0) = true := by simpa using hz
  rw [Hres.out]
  generalize thereErr l tips = te at *
  go_enter Tryz.func24, Tryz.ntmps24
  go_wp2_with fail
  refine Hth.out.mono ?_
  rintro e w1 ⟨rfl, hb1⟩
  go_wp2_with fail
  go_ret2
  exact ⟨_, rfl, StoreV.nil _ _ _ _ (by omega), hb1⟩
def idCells (l : List Obj) (k : Nat) : List Value := ((l.take k).map (·.id)).map (Value.int .i64)
theorem reach_next {l : List Obj} {k : Nat} (h : k < l.length) : idCells l k ++ [.int .i64 (obj l k).id] = idCells l (k + 1) := by
 unfold idCells
 rw [List.take_succ_eq_append_getElem h, List.map_append, List.map_append, obj_lt h]; rfl
def RetIntsE (w w' : World) (e : Ending) (xs : List Int) (c : Int) : Prop := ∃ v, e = .returned (.tuple #[v, .int .i64 c]) ∧ IntsV (fun _ => True) w' v xs ∧ Below w.heap.size w w'
theorem partRes_length (l : List Obj) (tips : List Int) : (partRes l tips).length ≤ 40 := by
 unfold partRes
 split
 ·rename_i h
  have := partTo_length l (reachB l false tips) l.length
  have h2 := (right_of (there_zero h).1).many
  unfold partOf
  unfold partTo at this
  omega
 ·simp
set_option maxRecDepth 100000 in
set_option maxHeartbeats 2000000 in
theorem reach_any (l : List Obj) (tips : List Int) (lv tv : Value) (S S' : Nat → Prop) (w : World) (h : StoreV S w lv l) (ht : IntsV S' w tv tips) :
  Calls Tryz.prog 55 #[lv, tv] w fun e w' => RetIntsE w w' e ((partRes l tips).map (·.id)) (thereErr l tips) := by
 have Hp := Lib.hid (part_any l tips _ _ S S' w h ht)
 obtain ⟨sa, sc, sn, rfl⟩ : ∃ a cap n, lv = .slice a n cap := let ⟨_, ⟨a, cap, hv, _⟩, _⟩ := h; ⟨a, cap, _, hv⟩
 obtain ⟨⟨tp, tc⟩, rfl⟩ := ht.shape
 have hlen := partRes_length l tips
 generalize partRes l tips = pl at *
 generalize thereErr l tips = te at *
 clear h ht
 go_enter Tryz.func55, Tryz.ntmps55
 go_wp2_with fail
 refine Hp.out.mono ?_
 rintro e w1 ⟨v1, rfl, hv1, hb1⟩
 obtain ⟨a, n, cap, la, ln, lc, HN, rfl, h1, h2, h3, h4, h5⟩ := hv1.open
 have Hb1 := Lib.hid hb1
 have Hi64 := Lib.hid (show ∀ z ∈ pl.map (·.id), I64 z from fun z hz => by
  rw [List.mem_map] at hz
  obtain ⟨o, ho, rfl⟩ := hz
  obtain ⟨i, hi, rfl⟩ := List.getElem_of_mem ho
  have := (h5 i (by rw [HN.out.1]; exact hi)).2.1
  rwa [obj_lt hi] at this)
 have hn40 : n ≤ 40 := by rw [HN.out.1]; exact hlen
 obtain ⟨R, hR, hR1, hRall⟩ := cls_plain w1
 have hRb := hR.below
 have hRn := hR.next
 clear hv1 hb1 h5 hlen
 go_wp2_with fail
 go_loopw [8, 19] (fun v i wr => ∃ k : Nat, k ≤ n ∧ i = .int .i64 k ∧ Hid (wr.ownsRow w1.heap.size 3 1 v k (idCells pl k)) ∧ In R wr) (fun _ i _ => n - (intOf i).toNat)
 case atStart => exact ⟨0, by omega, rfl, World.ownsRow_nil _ _ _ _, hR1⟩
 case round =>
  obtain ⟨k, hk, rfl, HG, hRw⟩ := hrel
  clear hR1
  by_cases hlt : k < n
  ·obtain ⟨b, off, rfl, hb, k0, k1, k2, k3⟩ := h4 (by omega)
   have x0 := k0 k wr hlt (hRb _ hRw)
   have x1 := k1 k wr hlt (hRb _ hRw)
   have x2 := k2 k wr hlt (hRb _ hRw)
   have x3 := k3 k wr hlt (hRb _ hRw)
   clear h4 k0 k1 k2 k3
   obtain ⟨Q, hQ, hQ1, y0, y1, y2, y3⟩ := cls_box4 wr (.int .i64 (obj pl k).id) (.int .i64 (obj pl k).kind) (.slice (la k) (ln k) (lc k)) (.string (obj pl k).text) 107
   have y00 := y0 _ hQ1
   have hRq := hRn _ _ hRw (hQ.below _ hQ1)
   have hGq := own_below HG.out (hQ.below _ hQ1)
   obtain ⟨va, vc, hvs⟩ := own_shape HG.out
   subst hvs
   have HGq := Lib.hid hGq
   have hbs := (hRb _ hRq).size
   clear y0 y1 y2 y3 hGq
   go_wp2_with (at_builtin; refine wpList_append_int rfl _ _ rfl HGq.out (by omega) hbs rfl rfl (by first | rfl | simp) ?_)
   intro v' w5 hG5 hu5
   have hR5 : In R w5 := hRall _ ((hRb _ hRq).trans (hu5.below (B := w1.heap.size) hbs (fun b hb => (HGq.out.lt b hb).1)))
   rw [reach_next (by rw [← HN.out.1]; exact hlt)] at hG5
   obtain ⟨va', vc', hvs'⟩ := own_shape hG5
   subst hvs'
   have HG5 := Lib.hid hG5
   clear hG5 hu5 x0 x1 x2 x3 y00
   go_wp2_with fail
   go_roundw
   case rel => exact ⟨k + 1, by omega, by go_num, HG5, hR5⟩
   case measure => simp [intOf]; omega
  ·obtain rfl : k = n := by omega
   obtain ⟨va, vc, hvs⟩ := own_shape HG.out
   have HG0 := HG.out
   rw [show idCells pl k = (pl.map (·.id)).map (Value.int .i64) by unfold idCells; rw [List.take_of_length_le (by have := HN.out.1; omega)]] at HG0
   have HE := Lib.hid (own_ints' (zs := pl.map (·.id)) HG0 (by rw [List.length_map]; exact HN.out.1) Hi64.out (by omega))
   clear HG0
   subst hvs
   go_wp2_with fail
   go_ret2
   exact ⟨_, rfl, HE.out.weaken fun _ _ => trivial, Hb1.out.trans ((hRb _ hRw).mono Hb1.out.size)⟩
end Go.Proofs.YtgkbalhkjolnmaaGreatDoor
namespace Go.Proofs.YtgkbalhkjolnmaaGreatDoor
open Go.RowKit
set_option linter.unusedVariables false
set_option linter.unusedSimpArgs false
end Go.Proofs.YtgkbalhkjolnmaaGreatDoor
namespace Go.Proofs.YtgkbalhkjolnmaaGreatDoor
open Go.RowKit
set_option linter.unusedVariables false
set_option linter.unusedSimpArgs false
theorem StoreV.vshape {S : Nat → Prop} {w : World} {v : Value} {l : List Obj} (h : StoreV S w v l) : ∃ a c, v = .slice a l.length c := let ⟨_, ⟨a, cap, hv, _⟩, _⟩ := h; ⟨a, cap, hv⟩
def sameStore (xs ys : List Obj) : Bool := decide (xs.length = ys.length) && (List.range xs.length).all (fun i => sameObj (obj xs i) (obj ys i))
theorem sameStore_iff (xs ys : List Obj) : sameStore xs ys = true ↔ xs = ys := by
 unfold sameStore
 simp only [Bool.and_eq_true, decide_eq_true_eq, List.all_eq_true, List.mem_range]
 constructor
 ·rintro ⟨h1, h2⟩
  apply List.ext_getElem h1
  intro i g1 g2
  have := (sameObj_iff _ _).1 (h2 i g1)
  rwa [obj_lt g1, obj_lt g2] at this
 ·rintro rfl
  exact ⟨rfl, fun i _ => (sameObj_iff _ _).2 rfl⟩
theorem sameStore_refl (xs : List Obj) : sameStore xs xs = true := (sameStore_iff _ _).2 rfl
theorem sameStore_len {xs ys : List Obj} (h : xs.length ≠ ys.length) : sameStore xs ys = false := by unfold sameStore; simp [h]
theorem sameStore_at {xs ys : List Obj} {k : Nat} (hk : k < xs.length) (h : sameObj (obj xs k) (obj ys k) = false) : sameStore xs ys = false := by
 cases e : sameStore xs ys
 ·rfl
 ·have := (sameStore_iff _ _).1 e
  subst this
  rw [(sameObj_iff _ _).2 rfl] at h; cases h
theorem sameStore_all {xs ys : List Obj} (hl : xs.length = ys.length) (h : ∀ k, k < xs.length → sameObj (obj xs k) (obj ys k) = true) : sameStore xs ys = true := by
 unfold sameStore
 simp only [Bool.and_eq_true, decide_eq_true_eq, List.all_eq_true, List.mem_range]
 exact ⟨hl, h⟩
set_option maxRecDepth 100000 in
set_option maxHeartbeats 2000000 in
theorem sameStore_any (xs ys : List Obj) (v v' : Value) (S S' : Nat → Prop) (w : World) (h1 : StoreV S w v xs) (h2 : StoreV S' w v' ys) :
  Calls Tryz.prog 26 #[v, v'] w fun e w' => e = .returned (.bool (sameStore xs ys)) ∧ Below w.heap.size w w' := by
 obtain ⟨a, n, cap, la, ln, lc, HN, rfl, _, hc, _, h4, h5⟩ := h1.open
 obtain ⟨a', n', cap', la', ln', lc', HN', rfl, _, hc', _, h4', h5'⟩ := h2.open
 obtain ⟨R, hR, hR1, _⟩ := cls_plain w
 have hRb := hR.below
 have hRg := cls_grown hR
 clear h1 h2
 by_cases hl : n = n'
 ·subst hl
  have Hall := Lib.hid (sameStore_all (xs := xs) (ys := ys) (by rw [← HN.out.1, ← HN'.out.1]))
  go_enter Tryz.func26, Tryz.ntmps26
  go_wp2_with fail
  go_loopw [5] (fun i wr => ∃ k : Nat, k ≤ n ∧ i = .int .i64 k ∧ Hid (∀ j, j < k → sameObj (obj xs j) (obj ys j) = true) ∧ In R wr) (fun i _ => n - (intOf i).toNat)
  case atStart => exact ⟨0, by omega, rfl, fun j hj => absurd hj (by omega), hR1⟩
  case round =>
   obtain ⟨k, hk, rfl, Hs, hRw⟩ := hrel
   clear hR1
   by_cases hlt : k < n
   ·obtain ⟨b, off, rfl, hb, k0, k1, k2, k3⟩ := h4 (by omega)
    obtain ⟨b', off', rfl, hb', k0', k1', k2', k3'⟩ := h4' (by omega)
    have x0 := fun x (hx : In R x) => k0 k x hlt (hRb x hx)
    have x1 := fun x (hx : In R x) => k1 k x hlt (hRb x hx)
    have x2 := fun x (hx : In R x) => k2 k x hlt (hRb x hx)
    have x3 := fun x (hx : In R x) => k3 k x hlt (hRb x hx)
    have y0 := fun x (hx : In R x) => k0' k x hlt (hRb x hx)
    have y1 := fun x (hx : In R x) => k1' k x hlt (hRb x hx)
    have y2 := fun x (hx : In R x) => k2' k x hlt (hRb x hx)
    have y3 := fun x (hx : In R x) => k3' k x hlt (hRb x hx)
    have Hso := Lib.hid (fun x (hx : In R x) => sameObject_any (obj xs k) (obj ys k) _ _ S S' x ((h5 k hlt).below (hRb x hx)) ((h5' k hlt).below (hRb x hx)))
    clear k0 k1 k2 k3 k0' k1' k2' k3' h4 h4' h5 h5'
    have hi1 : (0 : Int) ≤ (k : Int) := by omega
    have hi2 : (k : Int) < (n : Int) := by omega
    cases hq : sameObj (obj xs k) (obj ys k)
    ·have He := Lib.hid (sameStore_at (by rw [← HN.out.1]; exact hlt) hq)
     rw [hq] at Hso
     go_wp2_with fail
     refine wp_region_quiet_below (by kernel_rfl) (by kernel_rfl) ?_
     repeat (quiet_step (exact Calls.regrown_of (Hso.out _ (hRg _ _ _ hRw))))
     refine wpQuiet_nil ?_
     intro _ hw'
     obtain ⟨⟨dq, osq⟩, hw''⟩ := hw'
     subst hw''
     have hR4 := hRg _ dq osq hRw
     go_wp2_with fail
     go_ret
     exact ⟨by rw [He.out]; rfl, hRb _ hR4⟩
    ·have He := Lib.hid hq
     rw [hq] at Hso
     go_wp2_with fail
     refine wp_region_quiet_below (by kernel_rfl) (by kernel_rfl) ?_
     repeat (quiet_step (exact Calls.regrown_of (Hso.out _ (hRg _ _ _ hRw))))
     refine wpQuiet_nil ?_
     intro _ hw'
     obtain ⟨⟨dq, osq⟩, hw''⟩ := hw'
     subst hw''
     have hR4 := hRg _ dq osq hRw
     generalize Go.Sort.grow (redrawn wr dq) osq = w4 at *
     go_wp2_with fail
     go_roundw
     case rel => exact ⟨k + 1, by omega, by go_num, all_next Hs.out He.out, hR4⟩
     case measure => simp [intOf]; omega
   ·have HE := Lib.hid (show sameStore xs ys = true from Hall.out (fun j hj => Hs.out j (by have := HN.out.1; omega)))
    go_wp2_with fail
    go_ret
    exact ⟨by rw [HE.out]; rfl, hRb _ hRw⟩
 ·have Hl := Lib.hid (sameStore_len (xs := xs) (ys := ys) (by rw [← HN.out.1, ← HN'.out.1]; exact hl))
  go_enter Tryz.func26, Tryz.ntmps26
  go_wp2_with fail
  go_ret
  exact ⟨by rw [Hl.out]; rfl, hRb _ hR1⟩
end Go.Proofs.YtgkbalhkjolnmaaGreatDoor
namespace Go.Proofs.YtgkbalhkjolnmaaGreatDoor
open Go.RowKit
set_option linter.unusedVariables false
set_option linter.unusedSimpArgs false
theorem begun_w1 : thereErr shelfL [3] = 0 := by decide +kernel
theorem begun_w2 : (partRes shelfL [3]).map (·.id) = [1, 2, 3] := by decide +kernel
theorem begun_w3 : partRes shelfL [3] = shelfL.take 3 := by kernel_rfl
theorem begun_w4 : behindErr shelfL 3 5 = 0 := by decide +kernel
theorem begun_w5 : behindRes shelfL 3 5 = true := by decide +kernel
theorem begun_w6 : behindErr shelfL 5 3 = 0 := by decide +kernel
theorem begun_w7 : behindRes shelfL 5 3 = false := by decide +kernel
theorem begun_w8 : behindErr shelfL 2 5 = 7 := by decide +kernel
theorem begun_w9 : sameInts [1, 2, 3] [1, 2, 3] = true := by decide +kernel
theorem ints_lit {w : World} {xs : List Int} {t : TypeId} (h : ∀ x ∈ xs, 0 ≤ x ∧ x ≤ 1000) (hl : xs.length ≤ 1000) :
  IntsV (fun b => b = w.heap.size) (w.alloc (.cells (xs.map (Value.int .i64)).toArray t)) (.slice (some ⟨w.heap.size, 0, none⟩) xs.length xs.length) xs :=
 ints_new w xs t _ rfl (by omega) (fun x hx => small64 x (h x hx))
set_option maxRecDepth 100000 in
set_option maxHeartbeats 4000000 in
theorem walkBegun_any (w : World) : Calls Tryz.prog 23 #[] w fun e w' => e = .returned (.bool true) ∧ Below w.heap.size w w' := by
 obtain ⟨R, hR, hR1, _⟩ := cls_plain w
 have hRb := hR.below
 have hRn := hR.next
 have hRa := hR.alloc
 go_enter Tryz.func23, Tryz.ntmps23
 go_wp2_with fail
 refine (shelf_any _).mono ?_
 rintro e w1 ⟨v1, rfl, hv1, hb1⟩
 have hR2 := hRn _ _ hR1 hb1
 obtain ⟨a1, c1, rfl⟩ := hv1.vshape
 go_wp2_with fail
 have hG := reach_any shelfL [3] _ _ _ _ _ (hv1.below ((Below.refl _ _).alloc (Nat.le_refl _) _)) (ints_lit (w := w1) (xs := [3]) (t := 3) (by decide) (by decide))
 rw [begun_w1, begun_w2] at hG
 refine hG.mono ?_
 rintro e w2 ⟨v2, rfl, hv2, hb2⟩
 have hR3 := hRn _ _ (hRa _ _ hR2) hb2
 obtain ⟨⟨p2, c2⟩, rfl⟩ := hv2.shape
 have Hv2 := Lib.hid (show IntsV (fun _ => True) w2 (.slice p2 3 c2) [1, 2, 3] from hv2)
 clear hG hv1 hb1 hb2 hR1 hR2 hv2
 go_wp2_with fail
 refine (shelf_any _).mono ?_
 rintro e w3 ⟨v3, rfl, hv3, hb3⟩
 have hR4 := hRn _ _ hR3 hb3
 obtain ⟨a3, c3, rfl⟩ := hv3.vshape
 have Hv3 := Lib.hid (Hv2.out.below hb3)
 go_wp2_with fail
 have hG := part_any shelfL [3] _ _ _ _ _ (hv3.below ((Below.refl _ _).alloc (Nat.le_refl _) _)) (ints_lit (w := w3) (xs := [3]) (t := 3) (by decide) (by decide))
 rw [begun_w1, begun_w3] at hG
 refine hG.mono ?_
 rintro e w4 ⟨v4, rfl, hv4, hb4⟩
 have hb4' := below_next ((Below.refl w3.heap.size w3).alloc (Nat.le_refl _) (.cells #[.int .i64 3] 3)) hb4
 have hR5 := hRn _ _ hR4 hb4'
 have Hv4 := Lib.hid (Hv3.out.below hb4')
 obtain ⟨a4, c4, rfl⟩ := hv4.vshape
 have Hp4 := Lib.hid hv4
 clear hG hv3 hb3 hb4 hb4' hR3 hR4 hv4 Hv3 Hv2
 go_wp2_with fail
 refine (shelf_any _).mono ?_
 rintro e w5 ⟨v5, rfl, hv5, hb5⟩
 have hR6 := hRn _ _ hR5 hb5
 obtain ⟨a5, c5, rfl⟩ := hv5.vshape
 go_wp2_with fail
 have hG := behind_any shelfL 3 5 _ _ _ hv5 (small64 _ (by decide)) (small64 _ (by decide))
 rw [begun_w4, begun_w5] at hG
 refine hG.mono ?_
 rintro e w6 ⟨rfl, hb6⟩
 have hR7 := hRn _ _ hR6 hb6
 have Hv6 := Lib.hid ((Hv4.out.below hb5).below hb6)
 have Hp6 := Lib.hid ((Hp4.out.below hb5).below hb6)
 clear hG hv5 hb5 hb6 hR5 hR6 Hv4 Hp4
 go_wp2_with fail
 refine (shelf_any _).mono ?_
 rintro e w5 ⟨v5, rfl, hv5, hb5⟩
 have hR6 := hRn _ _ hR7 hb5
 obtain ⟨a6, c6, rfl⟩ := hv5.vshape
 go_wp2_with fail
 have hG := behind_any shelfL 5 3 _ _ _ hv5 (small64 _ (by decide)) (small64 _ (by decide))
 rw [begun_w6, begun_w7] at hG
 refine hG.mono ?_
 rintro e w8 ⟨rfl, hb6⟩
 have hR8 := hRn _ _ hR6 hb6
 have Hv8 := Lib.hid ((Hv6.out.below hb5).below hb6)
 have Hp8 := Lib.hid ((Hp6.out.below hb5).below hb6)
 clear hG hv5 hb5 hb6 hR6 hR7 Hv6 Hp6
 go_wp2_with fail
 refine (shelf_any _).mono ?_
 rintro e w5 ⟨v5, rfl, hv5, hb5⟩
 have hR6 := hRn _ _ hR8 hb5
 obtain ⟨a7, c7, rfl⟩ := hv5.vshape
 go_wp2_with fail
 have hG := behind_any shelfL 2 5 _ _ _ hv5 (small64 _ (by decide)) (small64 _ (by decide))
 rw [begun_w8] at hG
 refine hG.mono ?_
 rintro e w9 ⟨rfl, hb6⟩
 have hR9 := hRn _ _ hR6 hb6
 have Hv9 := Lib.hid ((Hv8.out.below hb5).below hb6)
 have Hp9 := Lib.hid ((Hp8.out.below hb5).below hb6)
 clear hG hv5 hb5 hb6 hR6 hR8 Hv8 Hp8
 go_wp2_with fail
 have hG := sameInts_any [1, 2, 3] [1, 2, 3] _ _ _ _ _ (Hv9.out.below ((Below.refl _ _).alloc (Nat.le_refl _) _)) (ints_lit (w := w9) (xs := [1, 2, 3]) (t := 3) (by decide) (by decide))
 rw [begun_w9] at hG
 refine hG.mono ?_
 rintro e w10 ⟨rfl, hb10⟩
 have hb10' := below_next ((Below.refl w9.heap.size w9).alloc (Nat.le_refl _) (.cells #[.int .i64 1, .int .i64 2, .int .i64 3] 3)) hb10
 have hR10 := hRn _ _ hR9 hb10'
 have Hp10 := Lib.hid (Hp9.out.below hb10')
 clear hG hb10 hb10' Hp9 Hv9 hR9
 go_wp2_with fail
 refine (shelf_any _).mono ?_
 rintro e w11 ⟨v11, rfl, hv11, hb11⟩
 have hR11 := hRn _ _ hR10 hb11
 obtain ⟨a11, c11, hcap1, rfl⟩ : ∃ a c, 5 ≤ c ∧ v11 = .slice a shelfL.length c := let ⟨_, ⟨a, cap, hv, h1, _⟩, _⟩ := hv11; ⟨a, cap, h1, hv⟩
 have HT := Lib.hid (hv11.take (i := 3) (by decide))
 have Hp11 := Lib.hid (Hp10.out.below hb11)
 clear hv11 hb11 Hp10
 have hc3 : (3 : Int) ≤ (c11 : Int) := by omega
 go_wp2_with fail
 have hG := sameStore_any (shelfL.take 3) (shelfL.take 3) _ _ _ _ _ Hp11.out HT.out
 rw [sameStore_refl] at hG
 refine hG.mono ?_
 rintro e w12 ⟨rfl, hb12⟩
 have hR12 := hRn _ _ hR11 hb12
 clear hG hb12
 go_wp2_with fail
 go_ret
 exact ⟨rfl, hRb _ hR12⟩
end Go.Proofs.YtgkbalhkjolnmaaGreatDoor
namespace Go.Proofs.YtgkbalhkjolnmaaGreatDoor
set_option linter.unusedVariables false
set_option linter.unusedSimpArgs false
theorem less_irrefl (x : List UInt8) : Op.bytesLess x x = false := by
 induction x with
 | nil => rfl
 | cons a x ih => simp [Op.bytesLess, ih]
theorem less_trans (x y z : List UInt8) (h1 : Op.bytesLess x y = true) (h2 : Op.bytesLess y z = true) : Op.bytesLess x z = true := by
 induction x generalizing y z with
 | nil =>
  cases y with
  | nil => simp [Op.bytesLess] at h1
  | cons b y => cases z with
   | nil => simp [Op.bytesLess] at h2
   | cons c z => simp [Op.bytesLess]
 | cons a x ih =>
  cases y with
  | nil => simp [Op.bytesLess] at h1
  | cons b y =>
   cases z with
   | nil => simp [Op.bytesLess] at h2
   | cons c z =>
    simp only [Op.bytesLess, Bool.or_eq_true, decide_eq_true_eq, Bool.and_eq_true, beq_iff_eq] at *
    rcases h1 with h1 | ⟨rfl, h1⟩
    ·rcases h2 with h2 | ⟨rfl, h2⟩
     ·left; simp only [UInt8.lt_iff_toNat_lt] at *; omega
     ·exact .inl h1
    ·rcases h2 with h2 | ⟨rfl, h2⟩
     ·exact .inl h2
     ·exact .inr ⟨rfl, ih y z h1 h2⟩
theorem strLt_irrefl (a : ByteArray) : strLt a a = false := less_irrefl _
theorem strLt_trans {a b c : ByteArray} (h1 : strLt a b = true) (h2 : strLt b c = true) : strLt a c = true := less_trans _ _ _ h1 h2
structure RefsOk (l : List Rf) (objs : List Obj) : Prop where
 many : l.length ≤ 8
 name : ∀ i, i < l.length → nameErr (rf l i).name = 0
 up : ∀ i j, i < j → j < l.length → strLt (rf l i).name (rf l j).name = true
 commit : ∀ i, i < l.length → kindOf objs (rf l i).id = 3
 apart : ∀ i k, i < l.length → k < l.length → inPlace (rf l i).name (rf l k).name = false
theorem commitErr_zero {objs : List Obj} {id : Int} : commitErr objs id = 0 ↔ kindOf objs id = 3 := by
 unfold commitErr
 by_cases h0 : kindOf objs id = 0
 ·rw [if_pos h0]; constructor
  ·intro e; cases e
  ·intro e; omega
 ·rw [if_neg h0]
  by_cases h3 : kindOf objs id = 3
  ·rw [if_pos h3]; simp [h3]
  ·rw [if_neg h3]; constructor
   ·intro e; cases e
   ·intro e; exact absurd e h3
theorem refErr_zero {l : List Rf} {objs : List Obj} {i : Nat} : refErr l objs i = 0 ↔ nameErr (rf l i).name = 0 ∧ (0 < i → strLt (rf l (i - 1)).name (rf l i).name = true) ∧ kindOf objs (rf l i).id = 3 := by
 unfold refErr
 by_cases h1 : nameErr (rf l i).name = 0
 ·rw [if_neg (by simp [h1])]
  by_cases h2 : 0 < i ∧ strLt (rf l (i - 1)).name (rf l i).name = false
  ·rw [if_pos h2]
   constructor
   ·intro e; cases e
   ·rintro ⟨_, h, _⟩; rw [h h2.1] at h2; cases h2.2
  ·rw [if_neg h2, commitErr_zero]
   constructor
   ·intro h; refine ⟨h1, fun hi => ?_, h⟩
    cases h3 : strLt (rf l (i - 1)).name (rf l i).name
    ·exact absurd ⟨hi, h3⟩ h2
    ·rfl
   ·rintro ⟨_, _, h⟩; exact h
 ·rw [if_pos h1]
  constructor
  ·intro e; exact absurd e h1
  ·rintro ⟨e, _⟩; exact absurd e h1
theorem rightErr_zero {l : List Rf} {objs : List Obj} (h : rightErr l objs = 0) : RefsOk l objs := by
 unfold rightErr at h
 by_cases h8 : 8 < l.length
 ·rw [if_pos h8] at h; cases h
 rw [if_neg h8] at h
 by_cases hs : scan (refErr l objs) l.length = 0
 ·rw [if_neg (by simp [hs])] at h
  have hr := fun i hi => refErr_zero.1 (scan_zero hs i hi)
  refine ⟨by omega, fun i hi => (hr i hi).1, ?_, fun i hi => (hr i hi).2.2, fun i k hi hk => ?_⟩
  ·intro i j hij
   induction j with
   | zero => omega
   | succ j ih =>
    intro hj
    have h1 := (hr (j + 1) hj).2.1 (by omega)
    simp only [Nat.add_sub_cancel] at h1
    by_cases e : i = j
    ·subst e; exact h1
    ·exact strLt_trans (ih (by omega) (by omega)) h1
  ·have h1 := scan_zero (scan_zero h i hi) k hk
   unfold pairErr at h1
   cases e : inPlace (rf l i).name (rf l k).name
   ·rfl
   ·rw [e] at h1; cases h1
 ·rw [if_pos hs] at h; exact absurd h hs
theorem rightErr_of {l : List Rf} {objs : List Obj} (h : RefsOk l objs) : rightErr l objs = 0 :=
 rightErr_ok h.many (scan_of_zero fun i hi => refErr_zero.2 ⟨h.name i hi, fun h0 => h.up (i - 1) i (by omega) hi, h.commit i hi⟩) (fun i k hi hk => h.apart i k hi hk)
theorem checkRefs_zero {l : List Rf} {objs : List Obj} : checkRefs l objs = 0 ↔ checkStore objs = 0 ∧ RefsOk l objs := by
 unfold checkRefs
 by_cases h : checkStore objs = 0
 ·rw [if_neg (by simp [h])]
  exact ⟨fun h1 => ⟨h, rightErr_zero h1⟩, fun h1 => rightErr_of h1.2⟩
 ·rw [if_pos h]
  exact ⟨fun h1 => absurd h1 h, fun h1 => absurd h1.1 h⟩
theorem RefsOk.ne {l : List Rf} {objs : List Obj} (h : RefsOk l objs) {i j : Nat} (hi : i < l.length) (hj : j < l.length) (hne : i ≠ j) : ((rf l i).name.toList == (rf l j).name.toList) = false := by
 rw [text_eq, decide_eq_false_iff_not]
 intro e
 rcases Nat.lt_or_ge i j with h1 | h1
 ·have := h.up i j h1 hj; rw [e, strLt_irrefl] at this; cases this
 ·have := h.up j i (by omega) hi; rw [e, strLt_irrefl] at this; cases this
def without (l : List Rf) (n : Nat) : List Rf := l.take n ++ l.drop (n + 1)
theorem without_length {l : List Rf} {n : Nat} (hn : n < l.length) : (without l n).length = l.length - 1 := by simp [without]; omega
theorem without_rf {l : List Rf} {n i : Nat} (hn : n < l.length) : rf (without l n) i = rf l (if i < n then i else i + 1) := by
 unfold rf at_ without
 simp only [List.getD_eq_getElem?_getD]
 by_cases h : i < n
 ·rw [List.getElem?_append_left (by simp; omega), if_pos h, List.getElem?_take, if_pos h]
 ·rw [List.getElem?_append_right (by simp; omega), if_neg h, List.getElem?_drop]
  congr 2
  simp; omega
theorem RefsOk.without {l : List Rf} {objs : List Obj} (h : RefsOk l objs) {n : Nat} (hn : n < l.length) : RefsOk (without l n) objs := by
 have hl := without_length hn
 refine ⟨by have := h.many; omega, fun i hi => ?_, fun i j hij hj => ?_, fun i hi => ?_, fun i k hi hk => ?_⟩
 ·rw [without_rf hn]; exact h.name _ (by split <;> omega)
 ·rw [without_rf hn, without_rf hn]; exact h.up _ _ (by split <;> split <;> omega) (by split <;> omega)
 ·rw [without_rf hn]; exact h.commit _ (by split <;> omega)
 ·rw [without_rf hn, without_rf hn]; exact h.apart _ _ (by split <;> omega) (by split <;> omega)
end Go.Proofs.YtgkbalhkjolnmaaGreatDoor
