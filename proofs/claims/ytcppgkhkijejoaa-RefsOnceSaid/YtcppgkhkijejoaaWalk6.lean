/- Walks: Part, Reach. -/
import Derived.Test.YtcppgkhkijejoaaWalk5
namespace Go.Proofs.Ytcppgkhkijejoaa
open Go.RowKit
set_option linter.unusedVariables false
set_option linter.unusedSimpArgs false

/-- the part that is known ahead of place k -/
def partTo (l : List Obj) (M : Nat → Bool) (k : Nat) : List Obj := ((List.range k).filter M).map (obj l)
theorem partTo_yes {l : List Obj} {M : Nat → Bool} {k : Nat} (h : M k = true) : partTo l M (k + 1) = partTo l M k ++ [obj l k] := by
  unfold partTo; rw [List.range_succ, List.filter_append, List.map_append]; simp [h]
theorem partTo_no {l : List Obj} {M : Nat → Bool} {k : Nat} (h : M k = false) : partTo l M (k + 1) = partTo l M k := by
  unfold partTo; rw [List.range_succ, List.filter_append, List.map_append]; simp [h]
theorem partTo_length (l : List Obj) (M : Nat → Bool) (k : Nat) : (partTo l M k).length ≤ k := by
  unfold partTo; rw [List.length_map]; exact Nat.le_trans (List.length_filter_le _ _) (by simp)

def partRes (l : List Obj) (tips : List Int) : List Obj := if thereErr l tips = 0 then partOf l tips else []

/-- a store comes back, and what is wrong -/
def RetStoreE (w w' : World) (e : Ending) (l : List Obj) (c : Int) : Prop := ∃ v, e = .returned (.tuple #[v, .int .i64 c]) ∧ StoreV (fun _ => True) w' v l ∧ Below w.heap.size w w'

set_option maxRecDepth 100000 in
set_option maxHeartbeats 4000000 in
theorem part_any (l : List Obj) (tips : List Int) (lv tv : Value) (S S' : Nat → Prop) (w : World) (h : StoreV S w lv l) (ht : IntsV S' w tv tips) :
    Calls Try.prog 36 #[lv, tv] w fun e w' => RetStoreE w w' e (partRes l tips) (thereErr l tips) := by
  have h' := h
  have Hth := Lib.hid (there_any l tips _ _ S S' w h ht)
  obtain ⟨a, n, cap, la, ln, lc, HN, rfl, h1, h2, h3, h4, h5⟩ := h.open
  clear h4 h5 h
  obtain ⟨⟨tp, tc⟩, rfl⟩ := ht.shape
  by_cases hz : thereErr l tips = 0
  · obtain ⟨hcs, hids⟩ := there_zero hz
    have HR := Lib.hid (right_of hcs)
    have Hpl := Lib.hid (show ∀ k, k < tips.length → ∃ i, i < l.length ∧ (obj l i).id = nth tips k from fun k hk => by
      have := hids (nth tips k) (by rw [nth_lt hk]; exact List.getElem_mem hk)
      obtain ⟨j, hj, hid, _⟩ := kind_place this
      exact ⟨j, hj, hid⟩)
    have Hres := Lib.hid (show partRes l tips = partTo l (reachB l false tips) l.length by unfold partRes; rw [if_pos hz]; rfl)
    have Hz := Lib.hid hz
    rw [hz] at Hth ⊢
    have hn40 : n ≤ 40 := by rw [HN.out.1]; exact HR.out.many
    clear hz hcs hids
    go_enter Try.func36, Try.ntmps36
    go_wp2_with fail
    refine Hth.out.mono ?_
    rintro e w1 ⟨rfl, hb1⟩
    go_wp2_with fail
    refine (walk_any l false tips _ all_any (fun _ _ => rfl) HR.out S S' _ _ _ (h'.below hb1) (ht.below hb1) (fun k hk => let ⟨i, a, b⟩ := Hpl.out k hk; ⟨i, a, b, (fun e => by cases e)⟩)).mono ?_
    rintro e w2 ⟨bw, bm, M, rfl, hwk, hM, hb2⟩
    have Hb12 := Lib.hid (below_next hb1 hb2)
    have Hwk := Lib.hid hwk
    have HM := Lib.hid hM
    obtain ⟨R, hR, hR1, hRall⟩ := cls_plain w2
    have hRb := hR.below
    have hRn := hR.next
    clear hwk hM hb1 hb2
    go_wp2_with fail
    go_loopw [8, 22] (fun v i wr => ∃ k : Nat, k ≤ n ∧ i = .int .i64 k ∧ Hid (Gath w2.heap.size wr v (partTo l (reachB l false tips) k)) ∧ In R wr) (fun _ i _ => n - (intOf i).toNat)
    case atStart => exact ⟨0, by omega, rfl, Gath.nil _ _, hR1⟩
    case round =>
      obtain ⟨k, hk, rfl, HG, hRw⟩ := hrel
      clear hR1
      by_cases hlt : k < n
      · obtain ⟨a5, n5, c5, la5, ln5, lc5, HN5, e5, _, _, _, h45, h55⟩ := (h'.below (Hb12.out)).open
        cases e5
        obtain ⟨b, off, rfl, hb, k0, k1, k2, k3⟩ := h45 (by omega)
        have x0 := k0 k wr hlt (hRb _ hRw)
        have x1 := k1 k wr hlt (hRb _ hRw)
        have x2 := k2 k wr hlt (hRb _ hRw)
        have x3 := k3 k wr hlt (hRb _ hRw)
        have Ho := Lib.hid (h55 k hlt)
        clear h45 h55 k0 k1 k2 k3 HN5
        obtain ⟨Q, hQ, hQ1, y0, y1, y2, y3⟩ := cls_box4 wr (.int .i64 (obj l k).id) (.int .i64 (obj l k).kind) (.slice (la5 k) (ln5 k) (lc5 k)) (.string (obj l k).text) 24
        have hQR : ∀ x, In Q x → In R x := fun x hx => hRn _ _ hRw (hQ.below x hx)
        have hwq := Hwk.out.below (hRb _ (hQR _ hQ1))
        have c1 := block_cell (j := 1) hwq.1 rfl
        have cm := block_cell (j := k) hwq.2 (markRow_get (by rw [← HN.out.1]; exact hlt))
        rw [HM.out k (by rw [← HN.out.1]; exact hlt)] at cm
        rw [← HN.out.1] at c1
        obtain ⟨va, vc, hvs⟩ := HG.out.shape
        subst hvs
        have hi1 : (0 : Int) ≤ (k : Int) := by omega
        have hi2 : (k : Int) < (n : Int) := by omega
        clear hwq
        cases hq : reachB l false tips k
        · rw [hq] at cm
          have HG2 := Lib.hid (show Gath w2.heap.size (wr.alloc (.cells #[.int .i64 (obj l k).id, .int .i64 (obj l k).kind, .slice (la5 k) (ln5 k) (lc5 k), .string (obj l k).text] 24)) _ (partTo l (reachB l false tips) (k + 1)) by
            rw [partTo_no hq]; exact HG.out.below ((Below.refl _ _).alloc (Nat.le_refl _) _))
          have hRq := hQR _ hQ1
          go_wp2_with fail
          go_roundw
          case rel => exact ⟨k + 1, by omega, by go_num, HG2, hRq⟩
          case measure => simp [intOf]; omega
        · rw [hq] at cm
          have y00 := y0 _ hQ1
          have y10 := y1 _ hQ1
          have y20 := y2 _ hQ1
          have y30 := y3 _ hQ1
          clear y0 y1 y2 y3
          go_wp2_with fail
          refine (own_any (obj l k) _ S _ (Ho.out.below (hRb _ (hQR _ hQ1)))).mono ?_
          rintro e w4 ⟨lv4, rfl, ho4, hb4⟩
          obtain ⟨⟨p4, c4⟩, rfl⟩ := ho4.1.shape
          have hR4 := hRn _ _ (hQR _ hQ1) hb4
          have HGq := Lib.hid (HG.out.below (hQ.below _ hQ1))
          have HG4 := Lib.hid (HGq.out.below hb4)
          have Hsep := Lib.hid (show ∀ b, (w.heap.size ≤ b ∧ (wr.alloc (.cells #[.int .i64 (obj l k).id, .int .i64 (obj l k).kind, .slice (la5 k) (ln5 k) (lc5 k), .string (obj l k).text] 24)).heap.size ≤ b) ∧ b < w4.heap.size → b < w4.heap.size ∧ (Value.slice va (partTo l (reachB l false tips) k).length vc).ownBlock ≠ some b from
            fun b hb => ⟨hb.2, fun e => by have := (HGq.out.block e).2; omega⟩)
          have Ho4 := Lib.hid (show ObjIs (fun b => (w.heap.size ≤ b ∧ (wr.alloc (.cells #[.int .i64 (obj l k).id, .int .i64 (obj l k).kind, .slice (la5 k) (ln5 k) (lc5 k), .string (obj l k).text] 24)).heap.size ≤ b) ∧ b < w4.heap.size) w4 (obj l k) (.slice p4 (obj l k).links.length c4) from
            ho4.lt.weaken (fun b hb => ⟨⟨by have h1 := hb.1; have h2 := (hRb _ (hQR _ hQ1)).size; have h3 := Hb12.out.size; omega, hb.1⟩, hb.2⟩))
          have hpl := partTo_length l (reachB l false tips) k
          clear ho4 hb4 x0 x1 x2 x3 y00 y10 y20 y30 c1 cm
          go_wp2_with (at_builtin; refine wpList_append_obj rfl _ _ rfl HG4.out Ho4.out rfl Hsep.out (by omega) (by have := (hRb _ hR4).size; omega) rfl rfl (by first | rfl | simp) ?_)
          intro v' w5 hG5 hu5
          have hR5 : In R w5 := hRall _ ((hRb _ hR4).trans (hu5.below (B := w2.heap.size) (hRb _ hR4).size (fun b hb => (HG4.out.block hb).1)))
          have HG5 := Lib.hid (show Gath w2.heap.size w5 v' (partTo l (reachB l false tips) (k + 1)) by rw [partTo_yes hq]; exact hG5)
          obtain ⟨va', vc', hvs'⟩ := hG5.shape
          subst hvs'
          clear hG5 hu5
          go_wp2_with fail
          go_roundw
          case rel => exact ⟨k + 1, by omega, by go_num, HG5, hR5⟩
          case measure => simp [intOf]; omega
      · obtain rfl : k = n := by omega
        obtain ⟨va, vc, hvs⟩ := HG.out.shape
        have hpl := partTo_length l (reachB l false tips) k
        have HSt := Lib.hid (HG.out.store (by omega))
        subst hvs
        go_wp2_with fail
        go_ret2
        refine ⟨_, rfl, ?_, Hb12.out.trans ((hRb _ hRw).mono Hb12.out.size)⟩
        rw [Hres.out, ← HN.out.1]; exact HSt.out
  · have Hres := Lib.hid (show partRes l tips = [] by unfold partRes; rw [if_neg hz])
    have hz' : (thereErr l tips != 0) = true := by simpa using hz
    rw [Hres.out]
    generalize thereErr l tips = te at *
    go_enter Try.func36, Try.ntmps36
    go_wp2_with fail
    refine Hth.out.mono ?_
    rintro e w1 ⟨rfl, hb1⟩
    go_wp2_with fail
    go_ret2
    exact ⟨_, rfl, StoreV.nil _ _ _ _ (by omega), hb1⟩

def idCells (l : List Obj) (k : Nat) : List Value := ((l.take k).map (·.id)).map (Value.int .i64)
theorem reach_next {l : List Obj} {k : Nat} (h : k < l.length) : idCells l k ++ [.int .i64 (obj l k).id] = idCells l (k + 1) := by
  unfold idCells
  rw [List.take_succ_eq_append_getElem h, List.map_append, List.map_append, obj_lt h]; rfl

/-- numbers come back, and what is wrong -/
def RetIntsE (w w' : World) (e : Ending) (xs : List Int) (c : Int) : Prop := ∃ v, e = .returned (.tuple #[v, .int .i64 c]) ∧ IntsV (fun _ => True) w' v xs ∧ Below w.heap.size w w'

theorem partRes_length (l : List Obj) (tips : List Int) : (partRes l tips).length ≤ 40 := by
  unfold partRes
  split
  · rename_i h
    have := partTo_length l (reachB l false tips) l.length
    have h2 := (right_of (there_zero h).1).many
    unfold partOf
    unfold partTo at this
    omega
  · simp

set_option maxRecDepth 100000 in
set_option maxHeartbeats 2000000 in
theorem reach_any (l : List Obj) (tips : List Int) (lv tv : Value) (S S' : Nat → Prop) (w : World) (h : StoreV S w lv l) (ht : IntsV S' w tv tips) :
    Calls Try.prog 32 #[lv, tv] w fun e w' => RetIntsE w w' e ((partRes l tips).map (·.id)) (thereErr l tips) := by
  have Hp := Lib.hid (part_any l tips _ _ S S' w h ht)
  obtain ⟨sa, sc, sn, rfl⟩ : ∃ a cap n, lv = .slice a n cap := let ⟨_, ⟨a, cap, hv, _⟩, _⟩ := h; ⟨a, cap, _, hv⟩
  obtain ⟨⟨tp, tc⟩, rfl⟩ := ht.shape
  have hlen := partRes_length l tips
  generalize partRes l tips = pl at *
  generalize thereErr l tips = te at *
  clear h ht
  go_enter Try.func32, Try.ntmps32
  go_wp2_with fail
  refine Hp.out.mono ?_
  rintro e w1 ⟨v1, rfl, hv1, hb1⟩
  obtain ⟨a, n, cap, la, ln, lc, HN, rfl, h1, h2, h3, h4, h5⟩ := hv1.open
  have Hb1 := Lib.hid hb1
  have Hi64 := Lib.hid (show ∀ z ∈ pl.map (·.id), I64 z from fun z hz => by
    rw [List.mem_map] at hz
    obtain ⟨o, ho, rfl⟩ := hz
    obtain ⟨i, hi, rfl⟩ := List.getElem_of_mem ho
    have := (h5 i (by rw [HN.out.1]; exact hi)).2.1
    rwa [obj_lt hi] at this)
  have hn40 : n ≤ 40 := by rw [HN.out.1]; exact hlen
  obtain ⟨R, hR, hR1, hRall⟩ := cls_plain w1
  have hRb := hR.below
  have hRn := hR.next
  clear hv1 hb1 h5 hlen
  go_wp2_with fail
  go_loopw [8, 19] (fun v i wr => ∃ k : Nat, k ≤ n ∧ i = .int .i64 k ∧ Hid (wr.ownsRow w1.heap.size 3 1 v k (idCells pl k)) ∧ In R wr) (fun _ i _ => n - (intOf i).toNat)
  case atStart => exact ⟨0, by omega, rfl, World.ownsRow_nil _ _ _ _, hR1⟩
  case round =>
    obtain ⟨k, hk, rfl, HG, hRw⟩ := hrel
    clear hR1
    by_cases hlt : k < n
    · obtain ⟨b, off, rfl, hb, k0, k1, k2, k3⟩ := h4 (by omega)
      have x0 := k0 k wr hlt (hRb _ hRw)
      have x1 := k1 k wr hlt (hRb _ hRw)
      have x2 := k2 k wr hlt (hRb _ hRw)
      have x3 := k3 k wr hlt (hRb _ hRw)
      clear h4 k0 k1 k2 k3
      obtain ⟨Q, hQ, hQ1, y0, y1, y2, y3⟩ := cls_box4 wr (.int .i64 (obj pl k).id) (.int .i64 (obj pl k).kind) (.slice (la k) (ln k) (lc k)) (.string (obj pl k).text) 24
      have y00 := y0 _ hQ1
      have hRq := hRn _ _ hRw (hQ.below _ hQ1)
      have hGq := own_below HG.out (hQ.below _ hQ1)
      obtain ⟨va, vc, hvs⟩ := own_shape HG.out
      subst hvs
      have HGq := Lib.hid hGq
      have hbs := (hRb _ hRq).size
      clear y0 y1 y2 y3 hGq
      go_wp2_with (at_builtin; refine wpList_append_int rfl _ _ rfl HGq.out (by omega) hbs rfl rfl (by first | rfl | simp) ?_)
      intro v' w5 hG5 hu5
      have hR5 : In R w5 := hRall _ ((hRb _ hRq).trans (hu5.below (B := w1.heap.size) hbs (fun b hb => (HGq.out.lt b hb).1)))
      rw [reach_next (by rw [← HN.out.1]; exact hlt)] at hG5
      obtain ⟨va', vc', hvs'⟩ := own_shape hG5
      subst hvs'
      have HG5 := Lib.hid hG5
      clear hG5 hu5 x0 x1 x2 x3 y00
      go_wp2_with fail
      go_roundw
      case rel => exact ⟨k + 1, by omega, by go_num, HG5, hR5⟩
      case measure => simp [intOf]; omega
    · obtain rfl : k = n := by omega
      obtain ⟨va, vc, hvs⟩ := own_shape HG.out
      have HG0 := HG.out
      rw [show idCells pl k = (pl.map (·.id)).map (Value.int .i64) by unfold idCells; rw [List.take_of_length_le (by have := HN.out.1; omega)]] at HG0
      have HE := Lib.hid (own_ints' (zs := pl.map (·.id)) HG0 (by rw [List.length_map]; exact HN.out.1) Hi64.out (by omega))
      clear HG0
      subst hvs
      go_wp2_with fail
      go_ret2
      exact ⟨_, rfl, HE.out.weaken fun _ _ => trivial, Hb1.out.trans ((hRb _ hRw).mono Hb1.out.size)⟩
end Go.Proofs.Ytcppgkhkijejoaa
