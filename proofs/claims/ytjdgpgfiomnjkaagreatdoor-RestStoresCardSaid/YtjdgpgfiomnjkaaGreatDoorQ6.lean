
/- WalkB: Walk6, Walk7, Walk8, Walk9. -/
import Derived.Test.YtjdgpgfiomnjkaaGreatDoorQ5
import Derived.Test.YtjdgpgfiomnjkaaGreatDoorQ2
import Derived.Test.YtjdgpgfiomnjkaaGreatDoorQ1
import Derived.Test.YtjdgpgfiomnjkaaGreatDoorQ3
namespace Go.Proofs.YtjdgpgfiomnjkaaGreatDoor
open Go.RowKit
set_option linter.unusedVariables false
set_option linter.unusedSimpArgs false
set_option linter.unusedSectionVars false
variable [Ghost]
def partTo (l : List Obj) (M : Nat → Bool) (k : Nat) : List Obj := ((List.range k).filter M).map (obj l)
theorem partTo_yes {l : List Obj} {M : Nat → Bool} {k : Nat} (h : M k = true) : partTo l M (k + 1) = partTo l M k ++ [obj l k] := by
 unfold partTo; rw [List.range_succ, List.filter_append, List.map_append]; simp [h]
theorem partTo_no {l : List Obj} {M : Nat → Bool} {k : Nat} (h : M k = false) : partTo l M (k + 1) = partTo l M k := by
 unfold partTo; rw [List.range_succ, List.filter_append, List.map_append]; simp [h]
theorem partTo_length (l : List Obj) (M : Nat → Bool) (k : Nat) : (partTo l M k).length ≤ k := by
 unfold partTo; rw [List.length_map]; exact Nat.le_trans (List.length_filter_le _ _) (by simp)
def partRes (l : List Obj) (tips : List Int) : List Obj := if thereErr l tips = 0 then partOf l tips else []
def RetStoreE (w w' : World) (e : Ending) (l : List Obj) (c : Int) : Prop := ∃ v, e = .returned (.tuple #[v, .int .i64 c]) ∧ StoreV (fun _ => True) w' v l ∧ Below w.heap.size w w'
def RetStoreF (w w' : World) (e : Ending) (l : List Obj) (c : Int) : Prop := ∃ v, e = .returned (.tuple #[v, .int .i64 c]) ∧ StoreV (fun b => w.heap.size ≤ b) w' v l ∧ Below w.heap.size w w'
theorem RetStoreF.e {w w' : World} {e : Ending} {l : List Obj} {c : Int} (h : RetStoreF w w' e l c) : RetStoreE w w' e l c := let ⟨v, h1, h2, h3⟩ := h; ⟨v, h1, h2.weaken fun _ _ => trivial, h3⟩
theorem GathS.below {S : Nat → Prop} {B : Nat} {w w' : World} {v : Value} {l : List Obj} (h : GathS S B w v l) (hb : Below w.heap.size w w') : GathS S B w' v l := by
 obtain ⟨lvs, h1, h2, h3⟩ := h
 exact ⟨lvs, fun b hS => ⟨Nat.lt_of_lt_of_le (h1 b hS).1 hb.size, (h1 b hS).2⟩, own_below h2 hb, fun i hi => (h3 i hi).below hb⟩
def GathF (B : Nat) (w : World) (v : Value) (l : List Obj) : Prop := ∃ S : Nat → Prop, GathS S B w v l ∧ ∀ b, S b → B ≤ b
theorem GathF.gath {B : Nat} {w : World} {v : Value} {l : List Obj} (h : GathF B w v l) : Gath B w v l := h.choose_spec.1.gath
theorem GathF.below {B : Nat} {w w' : World} {v : Value} {l : List Obj} (h : GathF B w v l) (hb : Below w.heap.size w w') : GathF B w' v l := let ⟨S, h1, h2⟩ := h; ⟨S, h1.below hb, h2⟩
theorem GathF.store {B : Nat} {w : World} {v : Value} {l : List Obj} (h : GathF B w v l) (hl : l.length * 56 ≤ 140737488351232) : StoreV (fun b => B ≤ b) w v l := by
 obtain ⟨S, ⟨lvs, h1, h2, h3⟩, h4⟩ := h
 refine ⟨lvs, own_sl h2 (fun g hg => (h2.lt g hg).1) hl (fun i hi j u hu => ?_), fun i hi => (h3 i hi).weaken h4⟩
 exact flat_get (cs := fun i => objCells (obj l i) (lvs i)) (fun _ _ => rfl) i hi j u hu
theorem GathF.list {B : Nat} {w : World} {v : Value} {l l' : List Obj} (e : l' = l) (h : GathF B w v l') : GathF B w v l := e ▸ h
set_option maxRecDepth 100000 in
set_option maxHeartbeats 4000000 in
theorem partF_any (l : List Obj) (tips : List Int) (lv tv : Value) (S S' : Nat → Prop) (w : World) (h : StoreV S w lv l) (ht : IntsV S' w tv tips) :
  Calls Tryz.prog 26 #[lv, tv] w fun e w' => RetStoreF w w' e (partRes l tips) (thereErr l tips) := by
 have h' := h
 have Hth := Lib.hid (there_any l tips _ _ S S' w h ht)
 obtain ⟨a, n, cap, la, ln, lc, HN, rfl, h1, h2, h3, h4, h5⟩ := h.open
 clear h4 h5 h
 obtain ⟨⟨tp, tc⟩, rfl⟩ := ht.shape
 by_cases hz : thereErr l tips = 0
 ·obtain ⟨hcs, hids⟩ := there_zero hz
  have HR := Lib.hid (right_of hcs)
  have Hpl := Lib.hid (show ∀ k, k < tips.length → ∃ i, i < l.length ∧ (obj l i).id = nth tips k from fun k hk => by
   have := hids (nth tips k) (by rw [nth_lt hk]; exact List.getElem_mem hk)
   obtain ⟨j, hj, hid, _⟩ := kind_place this
   exact ⟨j, hj, hid⟩)
  have Hres := Lib.hid (show partRes l tips = partTo l (reachB l false tips) l.length by unfold partRes; rw [if_pos hz]; rfl)
  have Hz := Lib.hid hz
  rw [hz] at Hth ⊢
  have hn40 : n ≤ 40 := by rw [HN.out.1]; exact HR.out.many
  clear hz hcs hids
  go_enter Tryz.func26, Tryz.ntmps26
  go_wp2_with fail
  refine Hth.out.mono ?_
  rintro e w1 ⟨rfl, hb1⟩
  go_wp2_with fail
  refine (walk_any l false tips _ all_any (fun _ _ => rfl) HR.out S S' _ _ _ (h'.below hb1) (ht.below hb1) (fun k hk => let ⟨i, a, b⟩ := Hpl.out k hk; ⟨i, a, b, (fun e => by cases e)⟩)).mono ?_
  rintro e w2 ⟨bw, bm, M, rfl, hwk, hM, hb2⟩
  have Hb12 := Lib.hid (below_next hb1 hb2)
  have Hwk := Lib.hid hwk
  have HM := Lib.hid hM
  obtain ⟨R, hR, hR1, hRall⟩ := cls_plain w2
  have hRb := hR.below
  have hRn := hR.next
  clear hwk hM hb1 hb2
  go_wp2_with fail
  go_loopw [8, 22] (fun v i wr => ∃ k : Nat, k ≤ n ∧ i = .int .i64 k ∧ Hid (GathF w2.heap.size wr v (partTo l (reachB l false tips) k)) ∧ In R wr) (fun _ i _ => n - (intOf i).toNat)
  case atStart => exact ⟨0, by omega, rfl, ⟨fun _ => False, ⟨fun _ => .nilFunc, fun _ h => h.elim, World.ownsRow_nil _ _ _ _, fun i hi => by simp [partTo] at hi⟩, fun _ h => h.elim⟩, hR1⟩
  case round =>
   obtain ⟨k, hk, rfl, HG, hRw⟩ := hrel
   clear hR1
   by_cases hlt : k < n
   ·obtain ⟨a5, n5, c5, la5, ln5, lc5, HN5, e5, _, _, _, h45, h55⟩ := (h'.below (Hb12.out)).open
    cases e5
    obtain ⟨b, off, rfl, hb, k0, k1, k2, k3⟩ := h45 (by omega)
    have x0 := k0 k wr hlt (hRb _ hRw)
    have x1 := k1 k wr hlt (hRb _ hRw)
    have x2 := k2 k wr hlt (hRb _ hRw)
    have x3 := k3 k wr hlt (hRb _ hRw)
    have Ho := Lib.hid (h55 k hlt)
    clear h45 h55 k0 k1 k2 k3 HN5
    obtain ⟨Q, hQ, hQ1, y0, y1, y2, y3⟩ := cls_box4 wr (.int .i64 (obj l k).id) (.int .i64 (obj l k).kind) (.slice (la5 k) (ln5 k) (lc5 k)) (.string (obj l k).text) 46
    have hQR : ∀ x, In Q x → In R x := fun x hx => hRn _ _ hRw (hQ.below x hx)
    have hwq := Hwk.out.below (hRb _ (hQR _ hQ1))
    have c1 := block_cell (j := 1) hwq.1 rfl
    have cm := block_cell (j := k) hwq.2 (markRow_get (by rw [← HN.out.1]; exact hlt))
    rw [HM.out k (by rw [← HN.out.1]; exact hlt)] at cm
    rw [← HN.out.1] at c1
    obtain ⟨va, vc, hvs⟩ := HG.out.gath.shape
    subst hvs
    have hi1 : (0 : Int) ≤ (k : Int) := by omega
    have hi2 : (k : Int) < (n : Int) := by omega
    clear hwq
    cases hq : reachB l false tips k
    ·rw [hq] at cm
     have HG2 := Lib.hid (show GathF w2.heap.size (wr.alloc (.cells #[.int .i64 (obj l k).id, .int .i64 (obj l k).kind, .slice (la5 k) (ln5 k) (lc5 k), .string (obj l k).text] 46)) _ (partTo l (reachB l false tips) (k + 1)) by
      rw [partTo_no hq]; exact HG.out.below ((Below.refl _ _).alloc (Nat.le_refl _) _))
     have hRq := hQR _ hQ1
     go_wp2_with fail
     go_roundw
     case rel => exact ⟨k + 1, by omega, by go_num, HG2, hRq⟩
     case measure => simp [intOf]; omega
    ·rw [hq] at cm
     have y00 := y0 _ hQ1
     have y10 := y1 _ hQ1
     have y20 := y2 _ hQ1
     have y30 := y3 _ hQ1
     clear y0 y1 y2 y3
     go_wp2_with fail
     refine (own_any (obj l k) _ S _ (Ho.out.below (hRb _ (hQR _ hQ1)))).mono ?_
     rintro e w4 ⟨lv4, rfl, ho4, hb4⟩
     obtain ⟨⟨p4, c4⟩, rfl⟩ := ho4.1.shape
     have hR4 := hRn _ _ (hQR _ hQ1) hb4
     have HGq := Lib.hid (HG.out.below (hQ.below _ hQ1))
     have HG4 := Lib.hid (HGq.out.below hb4)
     have Hsep := Lib.hid (show ∀ b, (w.heap.size ≤ b ∧ (wr.alloc (.cells #[.int .i64 (obj l k).id, .int .i64 (obj l k).kind, .slice (la5 k) (ln5 k) (lc5 k), .string (obj l k).text] 46)).heap.size ≤ b) ∧ b < w4.heap.size → b < w4.heap.size ∧ (Value.slice va (partTo l (reachB l false tips) k).length vc).ownBlock ≠ some b from
      fun b hb => ⟨hb.2, fun e => by have := (HGq.out.gath.block e).2; omega⟩)
     have Ho4 := Lib.hid (show ObjIs (fun b => (w.heap.size ≤ b ∧ (wr.alloc (.cells #[.int .i64 (obj l k).id, .int .i64 (obj l k).kind, .slice (la5 k) (ln5 k) (lc5 k), .string (obj l k).text] 46)).heap.size ≤ b) ∧ b < w4.heap.size) w4 (obj l k) (.slice p4 (obj l k).links.length c4) from
      ho4.lt.weaken (fun b hb => ⟨⟨by have h1 := hb.1; have h2 := (hRb _ (hQR _ hQ1)).size; have h3 := Hb12.out.size; omega, hb.1⟩, hb.2⟩))
     have hpl := partTo_length l (reachB l false tips) k
     have hge2 := (hQ.below _ hQ1).size
     have hge3 := (hRb _ hRw).size
     obtain ⟨S4, HGS, HS4⟩ := HG4.out
     have HS4 := Lib.hid HS4
     have HGS := Lib.hid HGS
     clear ho4 hb4 x0 x1 x2 x3 y00 y10 y20 y30 c1 cm
     go_wp2_with (at_builtin; refine wpList_append_objS rfl _ _ rfl HGS.out Ho4.out rfl Hsep.out (by omega) (by have := (hRb _ hR4).size; omega) rfl rfl (by first | rfl | simp) ?_)
     intro v' w5 hG5 hu5
     have hR5 : In R w5 := hRall _ ((hRb _ hR4).trans (hu5.below (B := w2.heap.size) (hRb _ hR4).size (fun b hb => (HG4.out.gath.block hb).1)))
     have HG5 := Lib.hid (show GathF w2.heap.size w5 v' (partTo l (reachB l false tips) (k + 1)) by rw [partTo_yes hq]; exact ⟨_, hG5, fun b hb => by rcases hb with hb | hb; exact HS4.out b hb; have hb1 := hb.1.2; omega⟩)
     obtain ⟨va', vc', hvs'⟩ := hG5.gath.shape
     subst hvs'
     clear hG5 hu5
     go_wp2_with fail
     go_roundw
     case rel => exact ⟨k + 1, by omega, by go_num, HG5, hR5⟩
     case measure => simp [intOf]; omega
   ·obtain rfl : k = n := by omega
    obtain ⟨va, vc, hvs⟩ := HG.out.gath.shape
    have hpl := partTo_length l (reachB l false tips) k
    have HSt := Lib.hid (HG.out.store (by omega))
    subst hvs
    go_wp2_with fail
    go_ret2
    refine ⟨_, rfl, ?_, Hb12.out.trans ((hRb _ hRw).mono Hb12.out.size)⟩
    rw [Hres.out, ← HN.out.1]; exact HSt.out.weaken fun b hb => by have := Hb12.out.size; omega
 ·have Hres := Lib.hid (show partRes l tips = [] by unfold partRes; rw [if_neg hz])
  have hz' : (thereErr l tips != 0) = true := by simpa using hz
  rw [Hres.out]
  generalize thereErr l tips = te at *
  go_enter Tryz.func26, Tryz.ntmps26
  go_wp2_with fail
  refine Hth.out.mono ?_
  rintro e w1 ⟨rfl, hb1⟩
  go_wp2_with fail
  go_ret2
  exact ⟨_, rfl, StoreV.nil _ _ _ _ (by omega), hb1⟩
theorem part_any (l : List Obj) (tips : List Int) (lv tv : Value) (S S' : Nat → Prop) (w : World) (h : StoreV S w lv l) (ht : IntsV S' w tv tips) :
  Calls Tryz.prog 26 #[lv, tv] w fun e w' => RetStoreE w w' e (partRes l tips) (thereErr l tips) := (partF_any l tips lv tv S S' w h ht).mono fun _ _ h => h.e
def idCells (l : List Obj) (k : Nat) : List Value := ((l.take k).map (·.id)).map (Value.int .i64)
theorem reach_next {l : List Obj} {k : Nat} (h : k < l.length) : idCells l k ++ [.int .i64 (obj l k).id] = idCells l (k + 1) := by
 unfold idCells
 rw [List.take_succ_eq_append_getElem h, List.map_append, List.map_append, obj_lt h]; rfl
def RetIntsE (w w' : World) (e : Ending) (xs : List Int) (c : Int) : Prop := ∃ v, e = .returned (.tuple #[v, .int .i64 c]) ∧ IntsV (fun _ => True) w' v xs ∧ Below w.heap.size w w'
def RetIntsF (w w' : World) (e : Ending) (xs : List Int) (c : Int) : Prop := ∃ v, e = .returned (.tuple #[v, .int .i64 c]) ∧ IntsV (fun b => w.heap.size ≤ b) w' v xs ∧ Below w.heap.size w w'
theorem RetIntsF.e {w w' : World} {e : Ending} {xs : List Int} {c : Int} (h : RetIntsF w w' e xs c) : RetIntsE w w' e xs c := let ⟨v, h1, h2, h3⟩ := h; ⟨v, h1, h2.weaken fun _ _ => trivial, h3⟩
theorem partRes_length (l : List Obj) (tips : List Int) : (partRes l tips).length ≤ 40 := by
 unfold partRes
 split
 ·rename_i h
  have := partTo_length l (reachB l false tips) l.length
  have h2 := (right_of (there_zero h).1).many
  unfold partOf
  unfold partTo at this
  omega
 ·simp
set_option maxRecDepth 100000 in
set_option maxHeartbeats 2000000 in
theorem reach_any (l : List Obj) (tips : List Int) (lv tv : Value) (S S' : Nat → Prop) (w : World) (h : StoreV S w lv l) (ht : IntsV S' w tv tips) :
  Calls Tryz.prog 62 #[lv, tv] w fun e w' => RetIntsE w w' e ((partRes l tips).map (·.id)) (thereErr l tips) := by
 have Hp := Lib.hid (part_any l tips _ _ S S' w h ht)
 obtain ⟨sa, sc, sn, rfl⟩ : ∃ a cap n, lv = .slice a n cap := let ⟨_, ⟨a, cap, hv, _⟩, _⟩ := h; ⟨a, cap, _, hv⟩
 obtain ⟨⟨tp, tc⟩, rfl⟩ := ht.shape
 have hlen := partRes_length l tips
 generalize partRes l tips = pl at *
 generalize thereErr l tips = te at *
 clear h ht
 go_enter Tryz.func62, Tryz.ntmps62
 go_wp2_with fail
 refine Hp.out.mono ?_
 rintro e w1 ⟨v1, rfl, hv1, hb1⟩
 obtain ⟨a, n, cap, la, ln, lc, HN, rfl, h1, h2, h3, h4, h5⟩ := hv1.open
 have Hb1 := Lib.hid hb1
 have Hi64 := Lib.hid (show ∀ z ∈ pl.map (·.id), I64 z from fun z hz => by
  rw [List.mem_map] at hz
  obtain ⟨o, ho, rfl⟩ := hz
  obtain ⟨i, hi, rfl⟩ := List.getElem_of_mem ho
  have := (h5 i (by rw [HN.out.1]; exact hi)).2.1
  rwa [obj_lt hi] at this)
 have hn40 : n ≤ 40 := by rw [HN.out.1]; exact hlen
 obtain ⟨R, hR, hR1, hRall⟩ := cls_plain w1
 have hRb := hR.below
 have hRn := hR.next
 clear hv1 hb1 h5 hlen
 go_wp2_with fail
 go_loopw [8, 19] (fun v i wr => ∃ k : Nat, k ≤ n ∧ i = .int .i64 k ∧ Hid (wr.ownsRow w1.heap.size 3 1 v k (idCells pl k)) ∧ In R wr) (fun _ i _ => n - (intOf i).toNat)
 case atStart => exact ⟨0, by omega, rfl, World.ownsRow_nil _ _ _ _, hR1⟩
 case round =>
  obtain ⟨k, hk, rfl, HG, hRw⟩ := hrel
  clear hR1
  by_cases hlt : k < n
  ·obtain ⟨b, off, rfl, hb, k0, k1, k2, k3⟩ := h4 (by omega)
   have x0 := k0 k wr hlt (hRb _ hRw)
   have x1 := k1 k wr hlt (hRb _ hRw)
   have x2 := k2 k wr hlt (hRb _ hRw)
   have x3 := k3 k wr hlt (hRb _ hRw)
   clear h4 k0 k1 k2 k3
   obtain ⟨Q, hQ, hQ1, y0, y1, y2, y3⟩ := cls_box4 wr (.int .i64 (obj pl k).id) (.int .i64 (obj pl k).kind) (.slice (la k) (ln k) (lc k)) (.string (obj pl k).text) 46
   have y00 := y0 _ hQ1
   have hRq := hRn _ _ hRw (hQ.below _ hQ1)
   have hGq := own_below HG.out (hQ.below _ hQ1)
   obtain ⟨va, vc, hvs⟩ := own_shape HG.out
   subst hvs
   have HGq := Lib.hid hGq
   have hbs := (hRb _ hRq).size
   clear y0 y1 y2 y3 hGq
   go_wp2_with (at_builtin; refine wpList_append_int rfl _ _ rfl HGq.out (by omega) hbs rfl rfl (by first | rfl | simp) ?_)
   intro v' w5 hG5 hu5
   have hR5 : In R w5 := hRall _ ((hRb _ hRq).trans (hu5.below (B := w1.heap.size) hbs (fun b hb => (HGq.out.lt b hb).1)))
   rw [reach_next (by rw [← HN.out.1]; exact hlt)] at hG5
   obtain ⟨va', vc', hvs'⟩ := own_shape hG5
   subst hvs'
   have HG5 := Lib.hid hG5
   clear hG5 hu5 x0 x1 x2 x3 y00
   go_wp2_with fail
   go_roundw
   case rel => exact ⟨k + 1, by omega, by go_num, HG5, hR5⟩
   case measure => simp [intOf]; omega
  ·obtain rfl : k = n := by omega
   obtain ⟨va, vc, hvs⟩ := own_shape HG.out
   have HG0 := HG.out
   rw [show idCells pl k = (pl.map (·.id)).map (Value.int .i64) by unfold idCells; rw [List.take_of_length_le (by have := HN.out.1; omega)]] at HG0
   have HE := Lib.hid (own_ints' (zs := pl.map (·.id)) HG0 (by rw [List.length_map]; exact HN.out.1) Hi64.out (by omega))
   clear HG0
   subst hvs
   go_wp2_with fail
   go_ret2
   exact ⟨_, rfl, HE.out.weaken fun _ _ => trivial, Hb1.out.trans ((hRb _ hRw).mono Hb1.out.size)⟩
end Go.Proofs.YtjdgpgfiomnjkaaGreatDoor
namespace Go.Proofs.YtjdgpgfiomnjkaaGreatDoor
open Go.RowKit
set_option linter.unusedVariables false
set_option linter.unusedSimpArgs false
set_option linter.unusedSectionVars false
variable [Ghost]
theorem sweep_congr {l : List Obj} {par : Bool} : ∀ (p : Nat) (M M' : Nat → Bool), p ≤ l.length → (∀ j, j < l.length → M j = M' j) → ∀ j, j < l.length → sweep l par p M j = sweep l par p M' j := by
 intro p
 induction p with
 | zero => exact fun M M' _ h => h
 | succ p ih =>
  intro M M' hp h j hj
  unfold sweep
  exact ih _ _ (by omega) (fun i hi => by rw [h i hi, h p (by omega)]) j hj
def LinkTo (l : List Obj) (par : Bool) (i k : Nat) (M Mk : Nat → Bool) : Prop :=
 ∀ j, j < l.length → (Mk j = true ↔ M j = true ∨ (M i = true ∧ ∃ k', k' < k ∧ (par = true → 0 < k') ∧ (obj l j).id = nth (obj l i).links k'))
theorem linkTo_zero (l : List Obj) (par : Bool) (i : Nat) (M : Nat → Bool) : LinkTo l par i 0 M M := fun j _ => ⟨.inl, fun h => h.elim id (fun ⟨_, k', h, _⟩ => absurd h (by omega))⟩
theorem linkTo_skip {l : List Obj} {par : Bool} {i k : Nat} {M Mk : Nat → Bool} (h : LinkTo l par i k M Mk) (hk : par = true ∧ k = 0) : LinkTo l par i (k + 1) M Mk := fun j hj => by
 rw [h j hj]
 constructor
 ·rintro (h1 | ⟨h1, k', h2, h3, h4⟩)
  ·exact .inl h1
  ·exact .inr ⟨h1, k', by omega, h3, h4⟩
 ·rintro (h1 | ⟨h1, k', h2, h3, h4⟩)
  ·exact .inl h1
  ·have := h3 hk.1; omega
theorem linkTo_mark {l : List Obj} {par : Bool} {i k c : Nat} {M Mk : Nat → Bool} (hr : Rising l) (h : LinkTo l par i k M Mk) (hM : M i = true) (hk : par = true → 0 < k) (hc : c < l.length) (hid : (obj l c).id = nth (obj l i).links k) :
  LinkTo l par i (k + 1) M (fun j => Mk j || j == c) := fun j hj => by
 simp only [Bool.or_eq_true, beq_iff_eq]
 rw [h j hj]
 constructor
 ·rintro ((h1 | ⟨h1, k', h2, h3, h4⟩) | h1)
  ·exact .inl h1
  ·exact .inr ⟨h1, k', by omega, h3, h4⟩
  ·subst h1; exact .inr ⟨hM, k, by omega, hk, hid⟩
 ·rintro (h1 | ⟨h1, k', h2, h3, h4⟩)
  ·exact .inl (.inl h1)
  ·by_cases e : k' = k
   ·subst e; exact .inr (hr.inj hj hc (h4.trans hid.symm))
   ·exact .inl (.inr ⟨h1, k', by omega, h3, h4⟩)
theorem follow_iff {o : Obj} {par : Bool} {x : Int} : x ∈ follow o par ↔ ∃ k, k < o.links.length ∧ (par = true → 0 < k) ∧ x = nth o.links k := by
 constructor
 ·intro h
  obtain ⟨k, h1, h2, h3⟩ := follow_mem h
  exact ⟨k, h1, h3, h2⟩
 ·rintro ⟨k, h1, h2, rfl⟩
  cases par
  ·show nth o.links k ∈ o.links
   rw [nth_lt h1]; exact List.getElem_mem h1
  ·have hk := h2 rfl
   show nth o.links k ∈ o.links.drop 1
   rw [List.mem_iff_getElem]
   refine ⟨k - 1, by simp; omega, ?_⟩
   rw [List.getElem_drop, nth_lt h1]; congr 1; omega
theorem linkTo_end {l : List Obj} {par : Bool} {i k : Nat} {M Mk : Nat → Bool} (h : LinkTo l par i k M Mk) (hk : k = (obj l i).links.length ∨ M i = false) : ∀ j, j < l.length → Mk j = (M j || (M i && edgeB l par i j)) := by
 intro j hj
 rw [Bool.eq_iff_iff, h j hj]
 simp only [Bool.or_eq_true, Bool.and_eq_true, edgeB, decide_eq_true_eq, List.any_eq_true, beq_iff_eq]
 constructor
 ·rintro (h1 | ⟨h1, k', h2, h3, h4⟩)
  ·exact .inl h1
  ·rcases hk with hk | hk
   ·exact .inr ⟨h1, hj, _, follow_iff.2 ⟨k', by omega, h3, rfl⟩, h4.symm⟩
   ·rw [hk] at h1; cases h1
 ·rintro (h1 | ⟨h1, _, x, hx, hxe⟩)
  ·exact .inl h1
  ·rcases hk with hk | hk
   ·obtain ⟨k', h2, h3, rfl⟩ := follow_iff.1 hx
    exact .inr ⟨h1, k', by omega, h3, hxe.symm⟩
   ·rw [hk] at h1; cases h1
def RetMarks (l : List Obj) (par : Bool) (tips : List Int) (w : World) (e : Ending) (w' : World) : Prop :=
 ∃ bm M, e = .returned (.slice (some ⟨bm, 0, none⟩) l.length l.length) ∧ w'.heap[bm]? = some (.cells (markRow l.length M) 4 (0, 0)) ∧ (∀ j, j < l.length → M j = reachB l par tips j) ∧ Below w.heap.size w w'
def TipTo (l : List Obj) (tips : List Int) (k : Nat) (M : Nat → Bool) : Prop := ∀ j, j < l.length → (M j = true ↔ ∃ k', k' < k ∧ (obj l j).id = nth tips k')
theorem tipTo_next {l : List Obj} {tips : List Int} {k c : Nat} {M : Nat → Bool} (hr : Rising l) (h : TipTo l tips k M) (hc : c < l.length) (hid : (obj l c).id = nth tips k) : TipTo l tips (k + 1) (fun j => M j || j == c) := fun j hj => by
 simp only [Bool.or_eq_true, beq_iff_eq]
 rw [h j hj]
 constructor
 ·rintro (⟨k', h1, h2⟩ | h1)
  ·exact ⟨k', by omega, h2⟩
  ·subst h1; exact ⟨k, by omega, hid⟩
 ·rintro ⟨k', h1, h2⟩
  by_cases e : k' = k
  ·subst e; exact .inr (hr.inj hj hc (h2.trans hid.symm))
  ·exact .inl ⟨k', by omega, h2⟩
theorem tipTo_end {l : List Obj} {tips : List Int} {M : Nat → Bool} (h : TipTo l tips tips.length M) : ∀ j, j < l.length → M j = tipB l tips j := fun j hj => by
 rw [Bool.eq_iff_iff, h j hj]
 unfold tipB
 rw [List.any_eq_true]
 constructor
 ·rintro ⟨k, h1, h2⟩
  exact ⟨nth tips k, by rw [nth_lt h1]; exact List.getElem_mem h1, by rw [h2]; simp⟩
 ·rintro ⟨x, hx, hxe⟩
  obtain ⟨k, hk, rfl⟩ := List.getElem_of_mem hx
  exact ⟨k, hk, by rw [nth_lt hk]; exact (by simpa using hxe : tips[k] = (obj l j).id).symm⟩
set_option maxRecDepth 100000 in
set_option maxHeartbeats 4000000 in
theorem reachOf_any (l : List Obj) (par : Bool) (tips : List Int) (hR : Right l) (S S' : Nat → Prop) (lv tv : Value) (w : World)
  (hst : StoreV S w lv l) (htv : IntsV S' w tv tips) (hpl : ∀ k, k < tips.length → kindOf l (nth tips k) ≠ 0) :
  Calls Tryz.prog 236 #[lv, tv, .bool par] w (RetMarks l par tips w) := by
 obtain ⟨a, cap, n, hlv, hnl, hn56⟩ : ∃ a cap n, lv = .slice a n cap ∧ n = l.length ∧ n * 56 ≤ 140737488351232 := let ⟨_, ⟨a, cap, hv, _, _, h, _⟩, _⟩ := hst; ⟨a, cap, _, hv, rfl, h⟩
 subst hlv
 obtain ⟨ta, tn, tcap, HT, rfl, t1, t2, t3, t4⟩ := htv.open
 have Hst := Lib.hid hst.lt
 have Htv := Lib.hid htv.lt
 have Hnl := Lib.hid hnl
 have hn40 : n ≤ 40 := by rw [hnl]; exact hR.many
 have hmk := make_marks n (by omega)
 have Hpl := Lib.hid hpl
 have HR := Lib.hid hR
 clear t4 hst htv hnl hpl hR
 go_enter Tryz.func236, Tryz.ntmps236
 go_wp2_with fail
 obtain ⟨w0, hw0⟩ : ∃ w0 : World, w0 = (w.alloc (.cells (markRow n fun _ => false) 4)) := ⟨_, rfl⟩
 have HA0 := Lib.hid (show w0.heap[w.heap.size]? = some (.cells (markRow l.length fun _ => false) 4 (0, 0)) by
  rw [hw0, ← Hnl.out]
  exact heap_alloc_new w _)
 have HB0 := Lib.hid (show Below w.heap.size w w0 by rw [hw0]; exact (Below.refl _ _).alloc (Nat.le_refl _) _)
 have Hst0 := Lib.hid (Hst.out.below HB0.out)
 have Htv0 := Lib.hid (Htv.out.below HB0.out)
 rw [← hw0]
 clear hw0 hmk
 go_loopw [8] (fun s wr => ∃ (k : Nat) (Mk : Nat → Bool), k ≤ tn ∧ s = .int .i64 k ∧ Hid (wr.heap[w.heap.size]? = some (.cells (markRow l.length Mk) 4 (0, 0)) ∧ TipTo l tips k Mk ∧ Upd (fun b => b = w.heap.size) w0 wr)) (fun s _ => tn - (intOf s).toNat)
 case atStart => exact ⟨0, _, by omega, rfl, HA0.out, fun j hj => ⟨(fun h => by cases h), fun ⟨k', h, _⟩ => absurd h (by omega)⟩, Upd.refl _ _⟩
 case round =>
  obtain ⟨k, Mk, hk, rfl, HK⟩ := hrel
  by_cases hkm : k < tn
  ·obtain ⟨p1, p2, p3, p4, p5⟩ := HR.out.rising.place (Hpl.out k (by have := HT.out; omega))
   have hcall := objectAt_any l (.slice a n cap) _ (nth tips k) wr (Hst0.out.upd HK.out.2.2 (fun b hb => by have := hb.2; omega))
   rw [p3] at hcall
   have Hcall := Lib.hid hcall
   obtain ⟨a5, n5, c5, HN5, e5, _, _, _, h5⟩ := (Htv0.out.upd HK.out.2.2 (fun b hb => by have := hb.2; omega)).open
   cases e5
   obtain ⟨b5, off5, rfl, _, hc5⟩ := h5 (by omega)
   have hcell := hc5 k wr hkm (Below.refl _ _)
   generalize lo l (nth tips k) = c at *
   have cm := block_cell (j := c) HK.out.1 (markRow_get p2)
   have fm := block_free (j := c) HK.out.1
   have hcn : c < n := by rw [Hnl.out]; exact p2
   have hi1 : (0 : Int) ≤ (c : Int) := by omega
   have hi2 : (c : Int) < (n : Int) := by omega
   have HX := Lib.hid (show (wr.setCell ⟨w.heap.size, c, none⟩ (.bool true)).heap[w.heap.size]? = some (.cells (markRow l.length (fun j => Mk j || j == c)) 4 (0, 0)) ∧ TipTo l tips (k + 1) (fun j => Mk j || j == c) ∧ Upd (fun b => b = w.heap.size) w0 (wr.setCell ⟨w.heap.size, c, none⟩ (.bool true)) from
    ⟨by rw [block_setCell HK.out.1, markRow_set p2], tipTo_next HR.out.rising HK.out.2.1 p2 p4, Upd.setCell (T := fun b => b = w.heap.size) HK.out.2.2 (fun _ => rfl) _⟩)
   clear hcall p1 p2 p3 p4 p5 hc5 h5 HN5
   go_wp2_with fail
   refine Hcall.out.mono ?_
   rintro e w5 ⟨rfl, rfl⟩
   go_wp2_with fail
   go_roundw
   case rel => exact ⟨k + 1, _, by omega, by go_num, HX⟩
   case measure => simp [intOf]; omega
  ·obtain rfl : k = tn := by omega
   have hm := HK.out.2.1
   rw [HT.out] at hm
   have HM0 := Lib.hid (tipTo_end hm)
   clear hm
   go_wp2_with fail
   go_loopw [9] (fun s wr => ∃ (p : Nat) (Mp : Nat → Bool), p ≤ n ∧ s = .int .i64 ((p : Int) - 1) ∧ Hid (wr.heap[w.heap.size]? = some (.cells (markRow l.length Mp) 4 (0, 0)) ∧ (∀ j, j < l.length → sweep l par p Mp j = reachB l par tips j) ∧ Upd (fun b => b = w.heap.size) w0 wr)) (fun s _ => (intOf s + 1).toNat)
   case atStart => exact ⟨n, Mk, by omega, rfl, HK.out.1, fun j hj => by unfold reachB; rw [Hnl.out]; exact sweep_congr _ _ _ (Nat.le_refl _) HM0.out j hj, HK.out.2.2⟩
   case round =>
    obtain ⟨p, Mp, hp, rfl, HP⟩ := hrel
    clear HK HM0
    rcases Nat.eq_zero_or_pos p with hp0 | hp0
    ·subst hp0
     go_wp2_with fail
     go_ret
     refine ⟨w.heap.size, Mp, by rw [← Hnl.out]; rfl, HP.out.1, HP.out.2.1, HB0.out.trans (HP.out.2.2.below (by have := HB0.out.size; omega) (fun b hb => by omega))⟩
    ·obtain ⟨i, rfl⟩ : ∃ i, p = i + 1 := ⟨p - 1, by omega⟩
     rw [show ((i + 1 : Nat) : Int) - 1 = (i : Int) by omega]
     clear hp0
     have hin : i < n := by omega
     have hil : i < l.length := by have := Hnl.out; omega
     have HIL := Lib.hid hil; clear hil
     have hi1 : (0 : Int) ≤ (i : Int) := by omega
     have hi2 : (i : Int) < (n : Int) := by omega
     have hst1 := Hst0.out.upd HP.out.2.2 (fun b hb => by have := hb.2; omega)
     obtain ⟨a5, n5, cap5, la, ln, lc, HN5, e5, _, _, _, h45, h55⟩ := hst1.open
     cases e5
     obtain ⟨b, off, rfl, _, k0, k1, k2, k3⟩ := h45 (by omega)
     have Hlinks := Lib.hid (h55 i hin).1
     have Hln := Lib.hid (HN5.out.2 i)
     have x2 := fun x (hx : Below wr.heap.size wr x) => k2 i x hin hx
     have Hx2 := Lib.hid (fun y (hu : Upd (fun b => b = w.heap.size) w0 y) => by
      have hsty := Hst0.out.upd hu (fun b hb => by have := hb.2; omega)
      exact hsty)
     obtain ⟨wo, rfl⟩ : ∃ wo : World, wo = wr := ⟨_, rfl⟩
     have Hst1 := Lib.hid hst1
     have Hb : Hid (w0.cell? ⟨b, off + i * 4 + 2, none⟩ = some (.slice (la i) (ln i) (lc i)) ∧ ¬ b = w.heap.size ∧ b < w0.heap.size) := by
      obtain ⟨a6, n6, cap6, la6, ln6, lc6, HN6, e6, _, _, _, h46, h56⟩ := Hst0.out.open
      cases e6
      obtain ⟨b6, off6, e6, hS6, _, _, k26, _⟩ := h46 (by omega)
      cases e6
      have hlt := hS6.2
      have hc0 := k26 i w0 hin (Below.refl _ _)
      have hne : ¬ b = w.heap.size := by omega
      have hc1 := (HP.out.2.2.cell hc0 hne)
      have hc2 := k2 i wo hin (Below.refl _ _)
      rw [hc1] at hc2
      have hw0 := World.block_lt_of_cell? w0 _ hc0
      exact ⟨by rw [hc0]; exact hc2, hne, hw0⟩
     clear k0 k1 k2 k3 x2 h45 h55 hst1 Hx2 HN5
     have Hlk : Hid (IntsV (fun b => b < w.heap.size) w0 (.slice (la i) (ln i) (lc i)) (obj l i).links) := by
      obtain ⟨a6, n6, cap6, la6, ln6, lc6, HN6, e6, _, _, _, h46, h56⟩ := Hst0.out.open
      cases e6
      obtain ⟨b6, off6, e6, hS6, _, _, k26, _⟩ := h46 (by omega)
      cases e6
      have hc0 := k26 i w0 hin (Below.refl _ _)
      have hb1 := Hb.out.1
      rw [hc0] at hb1
      simp only [Option.some.injEq] at hb1
      rw [← hb1]
      exact (h56 i hin).1.weaken (fun b hb => hb.2)
     generalize la i = a7 at *
     generalize ln i = m at *
     generalize lc i = c7 at *
     have hm8 : m * 8 ≤ 140737488351232 := by obtain ⟨⟨_, _, hv, _, _, h, _⟩, _⟩ := Hlk.out; cases hv; exact h
     go_wp2_with fail
     go_loopw [10] (fun s wr => ∃ (k : Nat) (Mk : Nat → Bool), k ≤ m ∧ s = .int .i64 k ∧ Hid (wr.heap[w.heap.size]? = some (.cells (markRow l.length Mk) 4 (0, 0)) ∧ LinkTo l par i k Mp Mk ∧ Upd (fun b => b = w.heap.size) w0 wr)) (fun s _ => m + 1 - (intOf s).toNat)
     case atStart => exact ⟨0, Mp, by omega, rfl, HP.out.1, linkTo_zero l par i Mp, HP.out.2.2⟩
     case round =>
      obtain ⟨k, Mk, hk, rfl, HK⟩ := hrel
      have hx := HK.out.2.2.cell Hb.out.1 Hb.out.2.1
      have cm := block_cell (j := i) HK.out.1 (markRow_get HIL.out)
      by_cases hkm : k < m
      ·have hd : decide ((k : Int) < (m : Int)) = true := by simp; omega
       cases hMi : Mk i
       ·rw [hMi] at cm
        have HE := Lib.hid (show Mp i = false by
         cases h : Mp i
         ·rfl
         ·have := (HK.out.2.1 i HIL.out).2 (.inl h); rw [hMi] at this; cases this)
        have HX := Lib.hid (show ∀ j, j < l.length → sweep l par i Mk j = reachB l par tips j from fun j hj => by
         rw [← HP.out.2.1 j hj]; exact sweep_congr _ _ _ (Nat.le_of_lt HIL.out) (linkTo_end HK.out.2.1 (.inr HE.out)) j hj)
        go_wp2_with fail
        go_roundw
        case rel => exact ⟨i, Mk, by omega, rfl, HK.out.1, HX.out, HK.out.2.2⟩
        case measure => simp [intOf]
       ·rw [hMi] at cm
        cases par
        ·cases hd0 : decide (0 < k)
         all_goals
          have hkl : k < (obj l i).links.length := by have := Hln.out; omega
          obtain ⟨c, hci, hid, _⟩ := HR.out.linked HIL.out hkl
          have hcl : c < l.length := by have := HIL.out; omega
          have hat : atOf l (nth (obj l i).links k) = (c : Int) := by rw [← hid]; exact HR.out.rising.at_self hcl
          have hcall := objectAt_any l (.slice (some ⟨b, off, none⟩) n cap) _ (nth (obj l i).links k) wr (Hst0.out.upd HK.out.2.2 (fun b hb => by have := hb.2; omega))
          rw [hat] at hcall
          have Hcall := Lib.hid hcall
          have HMp := Lib.hid (show Mp i = true from by
           rcases (HK.out.2.1 i HIL.out).1 hMi with h | ⟨h, _⟩
           ·exact h
           ·exact h)
          obtain ⟨a8, n8, c8, HN8, e8, _, _, _, h8⟩ := (Hlk.out.upd HK.out.2.2 (fun b hb h => by omega)).open
          cases e8
          obtain ⟨b8, off8, e8, _, hc8⟩ := h8 (by omega)
          rw [e8] at hx
          have hcell := hc8 k wr hkm (Below.refl _ _)
          have cmc := block_cell (j := c) HK.out.1 (markRow_get hcl)
          have fmc := block_free (j := c) HK.out.1
          have hcn : c < n := by omega
          have hi3 : (0 : Int) ≤ (c : Int) := by omega
          have hi4 : (c : Int) < (n : Int) := by omega
          have HX := Lib.hid (show (wr.setCell ⟨w.heap.size, c, none⟩ (.bool true)).heap[w.heap.size]? = some (.cells (markRow l.length (fun j => Mk j || j == c)) 4 (0, 0)) ∧ LinkTo l false i (k + 1) Mp (fun j => Mk j || j == c) ∧ Upd (fun b => b = w.heap.size) w0 (wr.setCell ⟨w.heap.size, c, none⟩ (.bool true)) from
           ⟨by rw [block_setCell HK.out.1, markRow_set hcl], linkTo_mark HR.out.rising HK.out.2.1 HMp.out (fun e => by cases e) hcl hid, Upd.setCell (T := fun b => b = w.heap.size) HK.out.2.2 (fun _ => rfl) _⟩)
          clear hcall hat hid hci hcl hkl hc8 h8 HN8
          go_wp2_with fail
          refine Hcall.out.mono ?_
          rintro e w5 ⟨rfl, rfl⟩
          go_wp2_with fail
          go_roundw
          case rel => exact ⟨k + 1, _, by omega, by go_num, HX⟩
          case measure => simp [intOf]; omega
        ·by_cases hk0 : 0 < k
         ·have hd0 : decide (0 < k) = true := by simpa using hk0
          have hkl : k < (obj l i).links.length := by have := Hln.out; omega
          obtain ⟨c, hci, hid, _⟩ := HR.out.linked HIL.out hkl
          have hcl : c < l.length := by have := HIL.out; omega
          have hat : atOf l (nth (obj l i).links k) = (c : Int) := by rw [← hid]; exact HR.out.rising.at_self hcl
          have hcall := objectAt_any l (.slice (some ⟨b, off, none⟩) n cap) _ (nth (obj l i).links k) wr (Hst0.out.upd HK.out.2.2 (fun b hb => by have := hb.2; omega))
          rw [hat] at hcall
          have Hcall := Lib.hid hcall
          have HMp := Lib.hid (show Mp i = true from by
           rcases (HK.out.2.1 i HIL.out).1 hMi with h | ⟨h, _⟩
           ·exact h
           ·exact h)
          obtain ⟨a8, n8, c8, HN8, e8, _, _, _, h8⟩ := (Hlk.out.upd HK.out.2.2 (fun b hb h => by omega)).open
          cases e8
          obtain ⟨b8, off8, e8, _, hc8⟩ := h8 (by omega)
          rw [e8] at hx
          have hcell := hc8 k wr hkm (Below.refl _ _)
          have cmc := block_cell (j := c) HK.out.1 (markRow_get hcl)
          have fmc := block_free (j := c) HK.out.1
          have hcn : c < n := by omega
          have hi3 : (0 : Int) ≤ (c : Int) := by omega
          have hi4 : (c : Int) < (n : Int) := by omega
          have HX := Lib.hid (show (wr.setCell ⟨w.heap.size, c, none⟩ (.bool true)).heap[w.heap.size]? = some (.cells (markRow l.length (fun j => Mk j || j == c)) 4 (0, 0)) ∧ LinkTo l true i (k + 1) Mp (fun j => Mk j || j == c) ∧ Upd (fun b => b = w.heap.size) w0 (wr.setCell ⟨w.heap.size, c, none⟩ (.bool true)) from
           ⟨by rw [block_setCell HK.out.1, markRow_set hcl], linkTo_mark HR.out.rising HK.out.2.1 HMp.out (fun _ => hk0) hcl hid, Upd.setCell (T := fun b => b = w.heap.size) HK.out.2.2 (fun _ => rfl) _⟩)
          clear hcall hat hid hci hcl hkl hc8 h8 HN8
          go_wp2_with fail
          refine Hcall.out.mono ?_
          rintro e w5 ⟨rfl, rfl⟩
          go_wp2_with fail
          go_roundw
          case rel => exact ⟨k + 1, _, by omega, by go_num, HX⟩
          case measure => simp [intOf]; omega
         ·have hd0 : decide (0 < k) = false := by simpa using hk0
          have HX := Lib.hid (show LinkTo l true i (k + 1) Mp Mk from linkTo_skip HK.out.2.1 ⟨rfl, by omega⟩)
          go_wp2_with fail
          go_roundw
          case rel => exact ⟨k + 1, Mk, by omega, by go_num, HK.out.1, HX.out, HK.out.2.2⟩
          case measure => simp [intOf]; omega
      ·obtain rfl : k = m := by omega
       have hd : decide ((k : Int) < (k : Int)) = false := by simp
       have HX := Lib.hid (show ∀ j, j < l.length → sweep l par i Mk j = reachB l par tips j from fun j hj => by
        rw [← HP.out.2.1 j hj]; exact sweep_congr _ _ _ (Nat.le_of_lt HIL.out) (linkTo_end HK.out.2.1 (.inl Hln.out)) j hj)
       go_wp2_with fail
       go_roundw
       case rel => exact ⟨i, Mk, by omega, rfl, HK.out.1, HX.out, HK.out.2.2⟩
       case measure => simp [intOf]
end Go.Proofs.YtjdgpgfiomnjkaaGreatDoor
namespace Go.Proofs.YtjdgpgfiomnjkaaGreatDoor
open Go.RowKit
set_option linter.unusedVariables false
set_option linter.unusedSimpArgs false
set_option linter.unusedSectionVars false
variable [Ghost]
theorem StoreV.vshape {S : Nat → Prop} {w : World} {v : Value} {l : List Obj} (h : StoreV S w v l) : ∃ a c, v = .slice a l.length c := let ⟨_, ⟨a, cap, hv, _⟩, _⟩ := h; ⟨a, cap, hv⟩
set_option maxRecDepth 100000 in
set_option maxHeartbeats 1000000 in
theorem isBehind_any (l : List Obj) (old newer : Int) (lv : Value) (S : Nat → Prop) (w : World) (h : StoreV S w lv l) (hR : Right l) (h1 : kindOf l old ≠ 0) (h2 : kindOf l newer ≠ 0) (hi : I64 newer) :
  Calls Tryz.prog 189 #[lv, .int .i64 old, .int .i64 newer] w fun e w' => e = .returned (.bool (behindB l old newer)) ∧ Below w.heap.size w w' := by
 obtain ⟨p1, p2, p3, p4, p5⟩ := hR.rising.place h1
 have HI := Lib.hid (ints_new w [newer] 3 w.heap.size rfl (by simp) (by intro x hx; simp only [List.mem_cons, List.not_mem_nil, or_false] at hx; subst hx; exact hi))
 have hb1 : Below w.heap.size w (w.alloc (.cells #[.int .i64 newer] 3)) := (Below.refl _ _).alloc (Nat.le_refl _) _
 have Hro := Lib.hid (reachOf_any l true [newer] hR S _ _ _ _ (h.below hb1) HI.out (fun k hk => by
  have h0 : k = 0 := by simp at hk; omega
  subst h0; exact h2))
 have Hat := Lib.hid (fun x (hx : Below w.heap.size w x) => by have := objectAt_any l lv S old x (h.below hx); rw [p3] at this; exact this)
 have Hb := Lib.hid (show behindB l old newer = reachB l true [newer] (lo l old) by unfold behindB; rw [p3]; rfl)
 obtain ⟨sa, sc, rfl⟩ := h.vshape
 generalize hj : lo l old = j at *
 have Hj := Lib.hid p2
 have Hb1 := Lib.hid hb1
 clear p1 p2 p3 p4 p5 hj h1 h2 h hR hb1
 go_enter Tryz.func189, Tryz.ntmps189
 go_wp2_with fail
 refine Hro.out.mono ?_
 rintro e w3 ⟨bm, M, rfl, hbm, hM, hb3⟩
 have hb4 := below_next Hb1.out hb3
 have hMj := hM j Hj.out
 have cm := block_cell (j := j) hbm (markRow_get Hj.out)
 rw [hMj, ← Hb.out] at cm
 have hjn : j < l.length := Hj.out
 have hi1 : (0 : Int) ≤ (j : Int) := by omega
 have hi2 : (j : Int) < (l.length : Int) := by omega
 have HX := Lib.hid hb4
 clear hMj hbm hM hb3 hb4
 go_wp2_with fail
 refine (Hat.out _ HX.out).mono ?_
 rintro e w5 ⟨rfl, rfl⟩
 go_wp2_with fail
 go_ret
 exact ⟨rfl, HX.out⟩
def sameStore (xs ys : List Obj) : Bool := decide (xs.length = ys.length) && (List.range xs.length).all (fun i => sameObj (obj xs i) (obj ys i))
theorem sameStore_iff (xs ys : List Obj) : sameStore xs ys = true ↔ xs = ys := by
 unfold sameStore
 simp only [Bool.and_eq_true, decide_eq_true_eq, List.all_eq_true, List.mem_range]
 constructor
 ·rintro ⟨h1, h2⟩
  apply List.ext_getElem h1
  intro i g1 g2
  have := (sameObj_iff _ _).1 (h2 i g1)
  rwa [obj_lt g1, obj_lt g2] at this
 ·rintro rfl
  exact ⟨rfl, fun i _ => (sameObj_iff _ _).2 rfl⟩
theorem sameStore_refl (xs : List Obj) : sameStore xs xs = true := (sameStore_iff _ _).2 rfl
theorem sameStore_len {xs ys : List Obj} (h : xs.length ≠ ys.length) : sameStore xs ys = false := by unfold sameStore; simp [h]
theorem sameStore_at {xs ys : List Obj} {k : Nat} (hk : k < xs.length) (h : sameObj (obj xs k) (obj ys k) = false) : sameStore xs ys = false := by
 cases e : sameStore xs ys
 ·rfl
 ·have := (sameStore_iff _ _).1 e
  subst this
  rw [(sameObj_iff _ _).2 rfl] at h; cases h
theorem sameStore_all {xs ys : List Obj} (hl : xs.length = ys.length) (h : ∀ k, k < xs.length → sameObj (obj xs k) (obj ys k) = true) : sameStore xs ys = true := by
 unfold sameStore
 simp only [Bool.and_eq_true, decide_eq_true_eq, List.all_eq_true, List.mem_range]
 exact ⟨hl, h⟩
set_option maxRecDepth 100000 in
set_option maxHeartbeats 2000000 in
theorem sameStore_any (xs ys : List Obj) (v v' : Value) (S S' : Nat → Prop) (w : World) (h1 : StoreV S w v xs) (h2 : StoreV S' w v' ys) :
  Calls Tryz.prog 34 #[v, v'] w fun e w' => e = .returned (.bool (sameStore xs ys)) ∧ Below w.heap.size w w' := by
 obtain ⟨a, n, cap, la, ln, lc, HN, rfl, _, hc, _, h4, h5⟩ := h1.open
 obtain ⟨a', n', cap', la', ln', lc', HN', rfl, _, hc', _, h4', h5'⟩ := h2.open
 obtain ⟨R, hR, hR1, _⟩ := cls_plain w
 have hRb := hR.below
 have hRg := cls_grown hR
 clear h1 h2
 by_cases hl : n = n'
 ·subst hl
  have Hall := Lib.hid (sameStore_all (xs := xs) (ys := ys) (by rw [← HN.out.1, ← HN'.out.1]))
  go_enter Tryz.func34, Tryz.ntmps34
  go_wp2_with fail
  go_loopw [5] (fun i wr => ∃ k : Nat, k ≤ n ∧ i = .int .i64 k ∧ Hid (∀ j, j < k → sameObj (obj xs j) (obj ys j) = true) ∧ In R wr) (fun i _ => n - (intOf i).toNat)
  case atStart => exact ⟨0, by omega, rfl, fun j hj => absurd hj (by omega), hR1⟩
  case round =>
   obtain ⟨k, hk, rfl, Hs, hRw⟩ := hrel
   clear hR1
   by_cases hlt : k < n
   ·obtain ⟨b, off, rfl, hb, k0, k1, k2, k3⟩ := h4 (by omega)
    obtain ⟨b', off', rfl, hb', k0', k1', k2', k3'⟩ := h4' (by omega)
    have x0 := fun x (hx : In R x) => k0 k x hlt (hRb x hx)
    have x1 := fun x (hx : In R x) => k1 k x hlt (hRb x hx)
    have x2 := fun x (hx : In R x) => k2 k x hlt (hRb x hx)
    have x3 := fun x (hx : In R x) => k3 k x hlt (hRb x hx)
    have y0 := fun x (hx : In R x) => k0' k x hlt (hRb x hx)
    have y1 := fun x (hx : In R x) => k1' k x hlt (hRb x hx)
    have y2 := fun x (hx : In R x) => k2' k x hlt (hRb x hx)
    have y3 := fun x (hx : In R x) => k3' k x hlt (hRb x hx)
    have Hso := Lib.hid (fun x (hx : In R x) => sameObject_any (obj xs k) (obj ys k) _ _ S S' x ((h5 k hlt).below (hRb x hx)) ((h5' k hlt).below (hRb x hx)))
    clear k0 k1 k2 k3 k0' k1' k2' k3' h4 h4' h5 h5'
    have hi1 : (0 : Int) ≤ (k : Int) := by omega
    have hi2 : (k : Int) < (n : Int) := by omega
    cases hq : sameObj (obj xs k) (obj ys k)
    ·have He := Lib.hid (sameStore_at (by rw [← HN.out.1]; exact hlt) hq)
     rw [hq] at Hso
     go_wp2_with fail
     refine wp_region_quiet_below (by kernel_rfl) (by kernel_rfl) ?_
     repeat (quiet_step (exact Calls.regrown_of (Hso.out _ (hRg _ _ _ hRw))))
     refine wpQuiet_nil ?_
     intro _ hw'
     obtain ⟨⟨dq, osq⟩, hw''⟩ := hw'
     subst hw''
     have hR4 := hRg _ dq osq hRw
     go_wp2_with fail
     go_ret
     exact ⟨by rw [He.out]; rfl, hRb _ hR4⟩
    ·have He := Lib.hid hq
     rw [hq] at Hso
     go_wp2_with fail
     refine wp_region_quiet_below (by kernel_rfl) (by kernel_rfl) ?_
     repeat (quiet_step (exact Calls.regrown_of (Hso.out _ (hRg _ _ _ hRw))))
     refine wpQuiet_nil ?_
     intro _ hw'
     obtain ⟨⟨dq, osq⟩, hw''⟩ := hw'
     subst hw''
     have hR4 := hRg _ dq osq hRw
     generalize Go.Sort.grow (redrawn wr dq) osq = w4 at *
     go_wp2_with fail
     go_roundw
     case rel => exact ⟨k + 1, by omega, by go_num, all_next Hs.out He.out, hR4⟩
     case measure => simp [intOf]; omega
   ·have HE := Lib.hid (show sameStore xs ys = true from Hall.out (fun j hj => Hs.out j (by have := HN.out.1; omega)))
    go_wp2_with fail
    go_ret
    exact ⟨by rw [HE.out]; rfl, hRb _ hRw⟩
 ·have Hl := Lib.hid (sameStore_len (xs := xs) (ys := ys) (by rw [← HN.out.1, ← HN'.out.1]; exact hl))
  go_enter Tryz.func34, Tryz.ntmps34
  go_wp2_with fail
  go_ret
  exact ⟨by rw [Hl.out]; rfl, hRb _ hR1⟩
def storeIsB (l : List Obj) (e c : Int) (want : List Obj) : Bool := (e == c) && sameStore l (if c = 0 then want else [])
theorem storeIsB_same (l : List Obj) (e : Int) : storeIsB l e e l = true ↔ (e = 0 ∨ l = []) := by
 unfold storeIsB
 by_cases h : e = 0
 ·simp [h, sameStore_refl]
 ·simp [h, sameStore_iff]
set_option maxRecDepth 100000 in
set_option maxHeartbeats 1000000 in
theorem storeIs_any (l want : List Obj) (e c : Int) (v u : Value) (S S' : Nat → Prop) (w : World) (h : StoreV S w v l) (hw : StoreV S' w u want) :
  Calls Tryz.prog 21 #[v, .int .i64 e, .int .i64 c, u] w fun x w' => x = .returned (.bool (storeIsB l e c want)) ∧ Below w.heap.size w w' := by
 have H1 := Lib.hid (sameStore_any l want v u S S' w h hw)
 have H2 := Lib.hid (sameStore_any l [] v (.slice none 0 0) S (fun _ => True) w h (StoreV.nil _ _ _ _ (by omega)))
 obtain ⟨a, n, rfl⟩ := h.vshape
 obtain ⟨a', n', rfl⟩ := hw.vshape
 have Hd := Lib.hid (show storeIsB l e c want = ((e == c) && sameStore l (if c = 0 then want else [])) from rfl)
 clear h hw
 by_cases hc : c = 0
 ·have q0 : (c != 0) = false := by simpa using hc
  rw [if_pos hc] at Hd
  generalize sameStore l want = b1 at *
  have HC := Lib.hid hc; clear hc
  cases q1 : (e == c)
  ·go_enter Tryz.func21, Tryz.ntmps21
   go_wp2_with fail
   go_ret
   exact ⟨by rw [Hd.out, q1]; rfl, Below.refl _ _⟩
  ·go_enter Tryz.func21, Tryz.ntmps21
   go_wp2_with fail
   refine H1.out.mono ?_
   rintro x w2 ⟨rfl, hb2⟩
   go_wp2_with fail
   go_ret
   exact ⟨by rw [Hd.out, q1]; rfl, hb2⟩
 ·have q0 : (c != 0) = true := by simpa using hc
  rw [if_neg hc] at Hd
  generalize sameStore l [] = b1 at *
  have HC := Lib.hid hc; clear hc
  cases q1 : (e == c)
  ·go_enter Tryz.func21, Tryz.ntmps21
   go_wp2_with fail
   go_ret
   exact ⟨by rw [Hd.out, q1]; rfl, Below.refl _ _⟩
  ·go_enter Tryz.func21, Tryz.ntmps21
   go_wp2_with fail
   refine H2.out.mono ?_
   rintro x w2 ⟨rfl, hb2⟩
   go_wp2_with fail
   go_ret
   exact ⟨by rw [Hd.out, q1]; rfl, hb2⟩
end Go.Proofs.YtjdgpgfiomnjkaaGreatDoor
namespace Go.Proofs.YtjdgpgfiomnjkaaGreatDoor
open Go.RowKit
set_option linter.unusedVariables false
set_option linter.unusedSimpArgs false
set_option linter.unusedSectionVars false
variable [Ghost]
theorem begun_w1 : thereErr shelfL [3] = 0 := by decide +kernel
theorem begun_w2 : (partRes shelfL [3]).map (·.id) = [1, 2, 3] := by decide +kernel
theorem begun_w3 : partRes shelfL [3] = shelfL.take 3 := by kernel_rfl
theorem begun_w4 : behindErr shelfL 3 5 = 0 := by decide +kernel
theorem begun_w5 : behindRes shelfL 3 5 = true := by decide +kernel
theorem begun_w6 : behindErr shelfL 5 3 = 0 := by decide +kernel
theorem begun_w7 : behindRes shelfL 5 3 = false := by decide +kernel
theorem begun_w8 : behindErr shelfL 2 5 = 7 := by decide +kernel
theorem begun_w9 : sameInts [1, 2, 3] [1, 2, 3] = true := by decide +kernel
theorem ints_lit {w : World} {xs : List Int} {t : TypeId} (h : ∀ x ∈ xs, 0 ≤ x ∧ x ≤ 1000) (hl : xs.length ≤ 1000) :
  IntsV (fun b => b = w.heap.size) (w.alloc (.cells (xs.map (Value.int .i64)).toArray t)) (.slice (some ⟨w.heap.size, 0, none⟩) xs.length xs.length) xs :=
 ints_new w xs t _ rfl (by omega) (fun x hx => small64 x (h x hx))
set_option maxRecDepth 100000 in
set_option maxHeartbeats 4000000 in
theorem walkBegun_any (w : World) : Calls Tryz.prog 11 #[] w fun e w' => e = .returned (.bool true) ∧ Below w.heap.size w w' := by
 obtain ⟨R, hR, hR1, _⟩ := cls_plain w
 have hRb := hR.below
 have hRn := hR.next
 have hRa := hR.alloc
 go_enter Tryz.func11, Tryz.ntmps11
 go_wp2_with fail
 refine (shelf_any _).mono ?_
 rintro e w1 ⟨v1, rfl, hv1, hb1⟩
 have hR2 := hRn _ _ hR1 hb1
 obtain ⟨a1, c1, rfl⟩ := hv1.vshape
 go_wp2_with fail
 have hG := reach_any shelfL [3] _ _ _ _ _ (hv1.below ((Below.refl _ _).alloc (Nat.le_refl _) _)) (ints_lit (w := w1) (xs := [3]) (t := 3) (by decide) (by decide))
 rw [begun_w1, begun_w2] at hG
 refine hG.mono ?_
 rintro e w2 ⟨v2, rfl, hv2, hb2⟩
 have hR3 := hRn _ _ (hRa _ _ hR2) hb2
 obtain ⟨⟨p2, c2⟩, rfl⟩ := hv2.shape
 have Hv2 := Lib.hid (show IntsV (fun _ => True) w2 (.slice p2 3 c2) [1, 2, 3] from hv2)
 clear hG hv1 hb1 hb2 hR1 hR2 hv2
 go_wp2_with fail
 refine (shelf_any _).mono ?_
 rintro e w3 ⟨v3, rfl, hv3, hb3⟩
 have hR4 := hRn _ _ hR3 hb3
 obtain ⟨a3, c3, rfl⟩ := hv3.vshape
 have Hv3 := Lib.hid (Hv2.out.below hb3)
 go_wp2_with fail
 have hG := part_any shelfL [3] _ _ _ _ _ (hv3.below ((Below.refl _ _).alloc (Nat.le_refl _) _)) (ints_lit (w := w3) (xs := [3]) (t := 3) (by decide) (by decide))
 rw [begun_w1, begun_w3] at hG
 refine hG.mono ?_
 rintro e w4 ⟨v4, rfl, hv4, hb4⟩
 have hb4' := below_next ((Below.refl w3.heap.size w3).alloc (Nat.le_refl _) (.cells #[.int .i64 3] 3)) hb4
 have hR5 := hRn _ _ hR4 hb4'
 have Hv4 := Lib.hid (Hv3.out.below hb4')
 obtain ⟨a4, c4, rfl⟩ := hv4.vshape
 have Hp4 := Lib.hid hv4
 clear hG hv3 hb3 hb4 hb4' hR3 hR4 hv4 Hv3 Hv2
 go_wp2_with fail
 refine (shelf_any _).mono ?_
 rintro e w5 ⟨v5, rfl, hv5, hb5⟩
 have hR6 := hRn _ _ hR5 hb5
 obtain ⟨a5, c5, rfl⟩ := hv5.vshape
 go_wp2_with fail
 have hG := behind_any shelfL 3 5 _ _ _ hv5 (small64 _ (by decide)) (small64 _ (by decide))
 rw [begun_w4, begun_w5] at hG
 refine hG.mono ?_
 rintro e w6 ⟨rfl, hb6⟩
 have hR7 := hRn _ _ hR6 hb6
 have Hv6 := Lib.hid ((Hv4.out.below hb5).below hb6)
 have Hp6 := Lib.hid ((Hp4.out.below hb5).below hb6)
 clear hG hv5 hb5 hb6 hR5 hR6 Hv4 Hp4
 go_wp2_with fail
 refine (shelf_any _).mono ?_
 rintro e w5 ⟨v5, rfl, hv5, hb5⟩
 have hR6 := hRn _ _ hR7 hb5
 obtain ⟨a6, c6, rfl⟩ := hv5.vshape
 go_wp2_with fail
 have hG := behind_any shelfL 5 3 _ _ _ hv5 (small64 _ (by decide)) (small64 _ (by decide))
 rw [begun_w6, begun_w7] at hG
 refine hG.mono ?_
 rintro e w8 ⟨rfl, hb6⟩
 have hR8 := hRn _ _ hR6 hb6
 have Hv8 := Lib.hid ((Hv6.out.below hb5).below hb6)
 have Hp8 := Lib.hid ((Hp6.out.below hb5).below hb6)
 clear hG hv5 hb5 hb6 hR6 hR7 Hv6 Hp6
 go_wp2_with fail
 refine (shelf_any _).mono ?_
 rintro e w5 ⟨v5, rfl, hv5, hb5⟩
 have hR6 := hRn _ _ hR8 hb5
 obtain ⟨a7, c7, rfl⟩ := hv5.vshape
 go_wp2_with fail
 have hG := behind_any shelfL 2 5 _ _ _ hv5 (small64 _ (by decide)) (small64 _ (by decide))
 rw [begun_w8] at hG
 refine hG.mono ?_
 rintro e w9 ⟨rfl, hb6⟩
 have hR9 := hRn _ _ hR6 hb6
 have Hv9 := Lib.hid ((Hv8.out.below hb5).below hb6)
 have Hp9 := Lib.hid ((Hp8.out.below hb5).below hb6)
 clear hG hv5 hb5 hb6 hR6 hR8 Hv8 Hp8
 go_wp2_with fail
 have hG := sameInts_any [1, 2, 3] [1, 2, 3] _ _ _ _ _ (Hv9.out.below ((Below.refl _ _).alloc (Nat.le_refl _) _)) (ints_lit (w := w9) (xs := [1, 2, 3]) (t := 3) (by decide) (by decide))
 rw [begun_w9] at hG
 refine hG.mono ?_
 rintro e w10 ⟨rfl, hb10⟩
 have hb10' := below_next ((Below.refl w9.heap.size w9).alloc (Nat.le_refl _) (.cells #[.int .i64 1, .int .i64 2, .int .i64 3] 3)) hb10
 have hR10 := hRn _ _ hR9 hb10'
 have Hp10 := Lib.hid (Hp9.out.below hb10')
 clear hG hb10 hb10' Hp9 Hv9 hR9
 go_wp2_with fail
 refine (shelf_any _).mono ?_
 rintro e w11 ⟨v11, rfl, hv11, hb11⟩
 have hR11 := hRn _ _ hR10 hb11
 obtain ⟨a11, c11, hcap1, rfl⟩ : ∃ a c, 5 ≤ c ∧ v11 = .slice a shelfL.length c := let ⟨_, ⟨a, cap, hv, h1, _⟩, _⟩ := hv11; ⟨a, cap, h1, hv⟩
 have HT := Lib.hid (hv11.take (i := 3) (by decide))
 have Hp11 := Lib.hid (Hp10.out.below hb11)
 clear hv11 hb11 Hp10
 have hc3 : (3 : Int) ≤ (c11 : Int) := by omega
 go_wp2_with fail
 have hG := sameStore_any (shelfL.take 3) (shelfL.take 3) _ _ _ _ _ Hp11.out HT.out
 rw [sameStore_refl] at hG
 refine hG.mono ?_
 rintro e w12 ⟨rfl, hb12⟩
 have hR12 := hRn _ _ hR11 hb12
 clear hG hb12
 go_wp2_with fail
 go_ret
 exact ⟨rfl, hRb _ hR12⟩
end Go.Proofs.YtjdgpgfiomnjkaaGreatDoor
namespace Go.Proofs.YtjdgpgfiomnjkaaGreatDoor
set_option linter.unusedVariables false
set_option linter.unusedSimpArgs false
set_option linter.unusedSectionVars false
variable [Ghost]
theorem less_irrefl (x : List UInt8) : Op.bytesLess x x = false := by
 induction x with
 | nil => rfl
 | cons a x ih => simp [Op.bytesLess, ih]
theorem less_trans (x y z : List UInt8) (h1 : Op.bytesLess x y = true) (h2 : Op.bytesLess y z = true) : Op.bytesLess x z = true := by
 induction x generalizing y z with
 | nil =>
  cases y with
  | nil => simp [Op.bytesLess] at h1
  | cons b y => cases z with
   | nil => simp [Op.bytesLess] at h2
   | cons c z => simp [Op.bytesLess]
 | cons a x ih =>
  cases y with
  | nil => simp [Op.bytesLess] at h1
  | cons b y =>
   cases z with
   | nil => simp [Op.bytesLess] at h2
   | cons c z =>
    simp only [Op.bytesLess, Bool.or_eq_true, decide_eq_true_eq, Bool.and_eq_true, beq_iff_eq] at *
    rcases h1 with h1 | ⟨rfl, h1⟩
    ·rcases h2 with h2 | ⟨rfl, h2⟩
     ·left; simp only [UInt8.lt_iff_toNat_lt] at *; omega
     ·exact .inl h1
    ·rcases h2 with h2 | ⟨rfl, h2⟩
     ·exact .inl h2
     ·exact .inr ⟨rfl, ih y z h1 h2⟩
theorem strLt_irrefl (a : ByteArray) : strLt a a = false := less_irrefl _
theorem strLt_trans {a b c : ByteArray} (h1 : strLt a b = true) (h2 : strLt b c = true) : strLt a c = true := less_trans _ _ _ h1 h2
structure RefsOk (l : List Rf) (objs : List Obj) : Prop where
 many : l.length ≤ 8
 name : ∀ i, i < l.length → nameErr (rf l i).name = 0
 up : ∀ i j, i < j → j < l.length → strLt (rf l i).name (rf l j).name = true
 commit : ∀ i, i < l.length → kindOf objs (rf l i).id = 3
 apart : ∀ i k, i < l.length → k < l.length → inPlace (rf l i).name (rf l k).name = false
theorem commitErr_zero {objs : List Obj} {id : Int} : commitErr objs id = 0 ↔ kindOf objs id = 3 := by
 unfold commitErr
 by_cases h0 : kindOf objs id = 0
 ·rw [if_pos h0]; constructor
  ·intro e; cases e
  ·intro e; omega
 ·rw [if_neg h0]
  by_cases h3 : kindOf objs id = 3
  ·rw [if_pos h3]; simp [h3]
  ·rw [if_neg h3]; constructor
   ·intro e; cases e
   ·intro e; exact absurd e h3
theorem refErr_zero {l : List Rf} {objs : List Obj} {i : Nat} : refErr l objs i = 0 ↔ nameErr (rf l i).name = 0 ∧ (0 < i → strLt (rf l (i - 1)).name (rf l i).name = true) ∧ kindOf objs (rf l i).id = 3 := by
 unfold refErr
 by_cases h1 : nameErr (rf l i).name = 0
 ·rw [if_neg (by simp [h1])]
  by_cases h2 : 0 < i ∧ strLt (rf l (i - 1)).name (rf l i).name = false
  ·rw [if_pos h2]
   constructor
   ·intro e; cases e
   ·rintro ⟨_, h, _⟩; rw [h h2.1] at h2; cases h2.2
  ·rw [if_neg h2, commitErr_zero]
   constructor
   ·intro h; refine ⟨h1, fun hi => ?_, h⟩
    cases h3 : strLt (rf l (i - 1)).name (rf l i).name
    ·exact absurd ⟨hi, h3⟩ h2
    ·rfl
   ·rintro ⟨_, _, h⟩; exact h
 ·rw [if_pos h1]
  constructor
  ·intro e; exact absurd e h1
  ·rintro ⟨e, _⟩; exact absurd e h1
theorem rightErr_zero {l : List Rf} {objs : List Obj} (h : rightErr l objs = 0) : RefsOk l objs := by
 unfold rightErr at h
 by_cases h8 : 8 < l.length
 ·rw [if_pos h8] at h; cases h
 rw [if_neg h8] at h
 by_cases hs : scan (refErr l objs) l.length = 0
 ·rw [if_neg (by simp [hs])] at h
  have hr := fun i hi => refErr_zero.1 (scan_zero hs i hi)
  refine ⟨by omega, fun i hi => (hr i hi).1, ?_, fun i hi => (hr i hi).2.2, fun i k hi hk => ?_⟩
  ·intro i j hij
   induction j with
   | zero => omega
   | succ j ih =>
    intro hj
    have h1 := (hr (j + 1) hj).2.1 (by omega)
    simp only [Nat.add_sub_cancel] at h1
    by_cases e : i = j
    ·subst e; exact h1
    ·exact strLt_trans (ih (by omega) (by omega)) h1
  ·have h1 := scan_zero (scan_zero h i hi) k hk
   unfold pairErr at h1
   cases e : inPlace (rf l i).name (rf l k).name
   ·rfl
   ·rw [e] at h1; cases h1
 ·rw [if_pos hs] at h; exact absurd h hs
theorem rightErr_of {l : List Rf} {objs : List Obj} (h : RefsOk l objs) : rightErr l objs = 0 :=
 rightErr_ok h.many (scan_of_zero fun i hi => refErr_zero.2 ⟨h.name i hi, fun h0 => h.up (i - 1) i (by omega) hi, h.commit i hi⟩) (fun i k hi hk => h.apart i k hi hk)
theorem checkRefs_zero {l : List Rf} {objs : List Obj} : checkRefs l objs = 0 ↔ checkStore objs = 0 ∧ RefsOk l objs := by
 unfold checkRefs
 by_cases h : checkStore objs = 0
 ·rw [if_neg (by simp [h])]
  exact ⟨fun h1 => ⟨h, rightErr_zero h1⟩, fun h1 => rightErr_of h1.2⟩
 ·rw [if_pos h]
  exact ⟨fun h1 => absurd h1 h, fun h1 => absurd h1.1 h⟩
theorem RefsOk.ne {l : List Rf} {objs : List Obj} (h : RefsOk l objs) {i j : Nat} (hi : i < l.length) (hj : j < l.length) (hne : i ≠ j) : ((rf l i).name.toList == (rf l j).name.toList) = false := by
 rw [text_eq, decide_eq_false_iff_not]
 intro e
 rcases Nat.lt_or_ge i j with h1 | h1
 ·have := h.up i j h1 hj; rw [e, strLt_irrefl] at this; cases this
 ·have := h.up j i (by omega) hi; rw [e, strLt_irrefl] at this; cases this
def without (l : List Rf) (n : Nat) : List Rf := l.take n ++ l.drop (n + 1)
theorem without_length {l : List Rf} {n : Nat} (hn : n < l.length) : (without l n).length = l.length - 1 := by simp [without]; omega
theorem without_rf {l : List Rf} {n i : Nat} (hn : n < l.length) : rf (without l n) i = rf l (if i < n then i else i + 1) := by
 unfold rf at_ without
 simp only [List.getD_eq_getElem?_getD]
 by_cases h : i < n
 ·rw [List.getElem?_append_left (by simp; omega), if_pos h, List.getElem?_take, if_pos h]
 ·rw [List.getElem?_append_right (by simp; omega), if_neg h, List.getElem?_drop]
  congr 2
  simp; omega
theorem RefsOk.without {l : List Rf} {objs : List Obj} (h : RefsOk l objs) {n : Nat} (hn : n < l.length) : RefsOk (without l n) objs := by
 have hl := without_length hn
 refine ⟨by have := h.many; omega, fun i hi => ?_, fun i j hij hj => ?_, fun i hi => ?_, fun i k hi hk => ?_⟩
 ·rw [without_rf hn]; exact h.name _ (by split <;> omega)
 ·rw [without_rf hn, without_rf hn]; exact h.up _ _ (by split <;> split <;> omega) (by split <;> omega)
 ·rw [without_rf hn]; exact h.commit _ (by split <;> omega)
 ·rw [without_rf hn, without_rf hn]; exact h.apart _ _ (by split <;> omega) (by split <;> omega)
end Go.Proofs.YtjdgpgfiomnjkaaGreatDoor
