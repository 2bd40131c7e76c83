/- Walks: package object, the reader: an object. -/
import Derived.Test.YtcppgkhkijejoaaRead
import Derived.Test.YtcppgkhkijejoaaRaw
import Derived.Deep.AppendLies
import Derived.Deep.RegionLaw
namespace Go.Proofs.Ytcppgkhkijejoaa
open Go.RowKit
set_option linter.unusedVariables false
set_option linter.unusedSimpArgs false

theorem Try.infoInt : (Try.prog.info? 3).map (fun i => (i.zero, i.size, i.bytes)) = some (some (.int .i64 0), 1, 8) := by kernel_rfl

def ObjRead (s : ByteArray) (bb : Nat) (w : World) (e : Ending) (w' : World) : Prop :=
  (rawOk s ∧ ∃ lv, e = .returned (.agg #[.int .i64 (rawObj s).id, .int .i64 (rawObj s).kind, lv, .string (rawObj s).text]) ∧ ObjIs (fun b => w.heap.size ≤ b) w' (rawObj s) lv ∧
    w'.heap[bb]? = some (.cells #[.string (rest s (rawLen s))] 99 (0, 0)) ∧ Upd (fun b => b = bb) w w') ∨
  (¬ rawOk s ∧ e = .panicked short ∧ Upd (fun b => b = bb) w w')

def zeroObj : Go.Obj := .cells #[.int .i64 0, .int .i64 0, .slice none 0 0, .string ⟨#[]⟩] 24

/-- in the midst of an object: i links have been read -/
def Mid (s : ByteArray) (bb b1 : Nat) (w wr : World) (i : Nat) (lv : Value) : Prop :=
  wr.heap[bb]? = some (.cells #[.string (rest s (3 + i))] 99 (0, 0)) ∧ wr.heap[w.heap.size]? = some zeroObj ∧
  wr.heap[b1]? = some (.cells #[.int .i64 (byt s 0), .int .i64 (byt s 1), lv, .string ⟨#[]⟩] 24 (0, 0)) ∧
  wr.ownsRow (b1 + 1) 3 1 lv i ((rawTo s i).map (Value.int .i64)) ∧ Upd (fun b => b = bb) w wr

theorem mid_next {s : ByteArray} {bb b1 i g cap : Nat} {w wr w4 w5 : World} {lv : Value} {o : Go.Obj} (hbb : bb < w.heap.size) (hs1 : w.heap.size + 1 ≤ b1) (hM : Mid s bb b1 w wr i lv)
    (h6 : w4.heap[bb]? = some (.cells #[.string (rest s (3 + i + 1))] 99 (0, 0))) (hv6 : Upd (fun b => b = bb) wr w4)
    (hown : w5.ownsRow (b1 + 1) 3 1 (.slice (some ⟨g, 0, none⟩) (i + 1) cap) (i + 1) ((rawTo s i).map (Value.int .i64) ++ [.int .i64 (byt s (3 + i))]))
    (hgrow : (w4.alloc o).grownBy w5 lv.ownBlock) (h5 : w5.heap[b1]? = some (.cells #[.int .i64 (byt s 0), .int .i64 (byt s 1), lv, .string ⟨#[]⟩] 24 (0, 0))) :
    Mid s bb b1 w (w5.setCell ⟨b1, 2, none⟩ (.slice (some ⟨g, 0, none⟩) (i + 1) cap)) (i + 1) (.slice (some ⟨g, 0, none⟩) (i + 1) cap) := by
  obtain ⟨m1, m2, m3, m4, m5⟩ := hM
  have hz := hv6.size
  have hz5 := m5.size
  have hlv : ∀ k, lv.ownBlock = some k → b1 + 1 ≤ k := fun k hk => (m4.lt k hk).1
  have k1 := (Below.heap_setCell w5 ⟨b1, 2, none⟩ (.slice (some ⟨g, 0, none⟩) (i + 1) cap) bb (by simp; omega)).trans
    ((hgrow.block bb (by simp; omega) (fun e => by have := hlv bb e.symm; omega)).trans ((Below.heap_alloc w4 o bb (by omega)).trans h6))
  have h4 := hv6.blk m2 (by omega)
  have k2 := (Below.heap_setCell w5 ⟨b1, 2, none⟩ (.slice (some ⟨g, 0, none⟩) (i + 1) cap) w.heap.size (by simp; omega)).trans
    ((hgrow.block w.heap.size (by simp; have := lt_of_block h4; omega) (fun e => by have := hlv _ e.symm; omega)).trans ((Below.heap_alloc w4 o _ (lt_of_block h4)).trans h4))
  have hne := own_ne hown h5 (by decide)
  refine ⟨by rw [show 3 + (i + 1) = 3 + i + 1 from by omega]; exact k1, k2, block_setCell (j := 2) h5 _, ?_, ?_⟩
  · rw [rawTo_next, List.map_append]
    exact ownsRow_setCell_other hown hne _
  · refine Upd.setCell ?_ (fun h => by simp at h; omega) _
    refine Upd.grown ((m5.trans hv6 (fun x _ h => h)).alloc o) hgrow (fun k hk hlt => ?_)
    have := hlv k hk; omega

theorem object_end {s : ByteArray} {bb b1 : Nat} {w w5 wf : World} {lv : Value} (hbb : bb < w.heap.size) (hs1 : w.heap.size + 1 ≤ b1) (hs : s.size ≤ 9223372036854775807) (hok : rawOk s)
    (h1 : w5.heap[bb]? = some (.cells #[.string (rest s (3 + rawN s + 1 + rawM s))] 99 (0, 0)))
    (h4 : w5.ownsRow (b1 + 1) 3 1 lv (rawN s) ((rawTo s (rawN s)).map (Value.int .i64))) (h5 : Upd (fun b => b = bb) w w5) (hf : Upd (fun b => b = b1 ∨ b = w.heap.size) w5 wf) :
    ObjIs (fun b => w.heap.size ≤ b) wf (rawObj s) lv ∧ wf.heap[bb]? = some (.cells #[.string (rest s (rawLen s))] 99 (0, 0)) ∧ Upd (fun b => b = bb) w wf := by
  have hn := rawN_le s
  have hm := rawM_le s
  have hlt : ∀ g, lv.ownBlock = some g → b1 + 1 ≤ g := fun g hg => (h4.lt g hg).1
  have h4' := own_upd h4 hf (fun g hg h => by have := hlt g hg; omega)
  have hb0 := byt_range s 0
  have hb1 := byt_range s 1
  refine ⟨⟨⟨?_, rawTo_i64 s _⟩, by unfold I64; simp only [rawObj]; omega, by unfold I64; simp only [rawObj]; omega, ?_⟩, ?_, h5.trans hf (fun x hx h => by omega)⟩
  · show Sl _ _ _ 1 8 (rawTo s (rawN s)).length _
    rw [rawTo_length]
    refine own_sl h4' (fun g hg => by have := hlt g hg; omega) (by omega) (fun i hi j u hu => ?_)
    match j, hu with
    | 0, hu =>
      simp only [List.getElem?_cons_zero, Option.some.injEq] at hu
      subst hu
      rw [Nat.mul_one, Nat.add_zero, List.getElem?_map, List.getElem?_eq_getElem (by rw [rawTo_length]; exact hi), Option.map_some]
      show _ = some (Value.int .i64 (nth (rawTo s (rawN s)) i))
      rw [nth_lt (by rw [rawTo_length]; exact hi)]
  · show (sub s (4 + rawN s) (rawM s)).size ≤ _
    rw [sub_size hok.2.2]; omega
  · rw [show rawLen s = 3 + rawN s + 1 + rawM s from by unfold rawLen; omega]
    exact hf.blk h1 (by omega)

set_option maxRecDepth 100000 in
set_option maxHeartbeats 4000000 in
theorem object_any (s : ByteArray) (bb : Nat) (w : World) (hb : w.heap[bb]? = some (.cells #[.string s] 99 (0, 0))) (hs : s.size ≤ 9223372036854775807) :
    Calls Try.prog 77 #[.pointer (some ⟨bb, 0, none⟩)] w (ObjRead s bb w) := by
  rw [← rest_zero s] at hb
  have hbb := lt_of_block hb
  have Hnot : Hid (∀ (h : s.size < 3 ∨ s.size < 4 + rawN s ∨ s.size < 4 + rawN s + rawM s), ¬ rawOk s) := by
    intro h h'; obtain ⟨h1, h2, h3⟩ := h'; omega
  have h0 : (w.alloc zeroObj).heap[bb]? = some (.cells #[.string (rest s 0)] 99 (0, 0)) := by
    rw [Below.heap_alloc _ _ _ hbb]; exact hb
  have hB0 : (w.alloc zeroObj).heap[w.heap.size]? = some zeroObj := heap_alloc_new w _
  have H0 := Lib.hid h0; clear h0 hb
  have HU0 := Lib.hid ((Upd.refl (fun b => b = bb) w).alloc zeroObj)
  have HB0 := Lib.hid hB0; clear hB0
  unfold zeroObj at H0 HU0 HB0
  go_enter Try.func77, Try.ntmps77
  go_wp2_with fail
  by_cases h1 : s.size < 1
  · refine (one_dies s 0 bb _ H0.out (by omega) (by omega) hs).mono ?_
    rintro e w' ⟨rfl, rfl⟩
    exact ⟨rfl, .inr ⟨Hnot.out (by omega), rfl, HU0.out⟩⟩
  refine (one_ok s 0 bb _ H0.out (by omega) hs).mono ?_
  rintro e w1 ⟨rfl, H1, hu1⟩
  -- o lies in the next block
  have HU1 := Lib.hid (HU0.out.trans hu1 (fun x _ h => h))
  have hB1 := hu1.blk HB0.out (by omega)
  have hs1 := hu1.size
  simp only [World.size_alloc] at hs1
  have HB1 := Lib.hid hB1; clear hB1 hu1 HU0 HB0 H0
  have H1' := Lib.hid H1; clear H1
  go_wp2_with fail
  have HU2 := Lib.hid (HU1.out.alloc (.cells #[.int .i64 (byt s 0), .int .i64 0, .slice none 0 0, .string ⟨#[]⟩] 24))
  have H2 := Lib.hid ((Below.heap_alloc w1 (.cells #[.int .i64 (byt s 0), .int .i64 0, .slice none 0 0, .string ⟨#[]⟩] 24) bb (lt_of_block H1'.out)).trans H1'.out)
  have HB2 := Lib.hid ((Below.heap_alloc w1 (.cells #[.int .i64 (byt s 0), .int .i64 0, .slice none 0 0, .string ⟨#[]⟩] 24) w.heap.size (by omega)).trans HB1.out)
  have HC2 := Lib.hid (heap_alloc_new w1 (.cells #[.int .i64 (byt s 0), .int .i64 0, .slice none 0 0, .string ⟨#[]⟩] 24))
  by_cases h2 : s.size < 2
  · refine (one_dies s 1 bb _ H2.out (by omega) (by omega) hs).mono ?_
    rintro e w' ⟨rfl, rfl⟩
    exact ⟨rfl, .inr ⟨Hnot.out (by omega), rfl, HU2.out⟩⟩
  refine (one_ok s 1 bb _ H2.out (by omega) hs).mono ?_
  rintro e w2 ⟨rfl, H3, hu3⟩
  have HU3 := Lib.hid (HU2.out.trans hu3 (fun x _ h => h))
  have HB3 := Lib.hid (hu3.blk HB2.out (by omega))
  have HC3 := Lib.hid (hu3.blk HC2.out (by omega))
  clear hu3 HU2 H2 HB2 HC2 HU1 HB1 H1'
  have H3' := Lib.hid H3; clear H3
  generalize w1.heap.size = b1 at *
  have c1 := block_cell (j := 1) HC3.out rfl
  have f1 := block_free (j := 1) HC3.out
  go_wp2_with fail
  have HU4 := Lib.hid (HU3.out.setCell (p := ⟨b1, 1, none⟩) (fun h => by simp at h; omega) (.int .i64 (byt s 1)))
  have H4 := Lib.hid ((Below.heap_setCell w2 ⟨b1, 1, none⟩ (.int .i64 (byt s 1)) bb (by simp; omega)).trans H3'.out)
  have HB4 := Lib.hid ((Below.heap_setCell w2 ⟨b1, 1, none⟩ (.int .i64 (byt s 1)) w.heap.size (by simp; omega)).trans HB3.out)
  have HC4 := Lib.hid (block_setCell (j := 1) HC3.out (.int .i64 (byt s 1)))
  clear HU3 H3' HB3 HC3 c1 f1
  by_cases h3 : s.size < 3
  · refine (one_dies s 2 bb _ H4.out (by omega) (by omega) hs).mono ?_
    rintro e w' ⟨rfl, rfl⟩
    exact ⟨rfl, .inr ⟨Hnot.out (by omega), rfl, HU4.out⟩⟩
  refine (one_ok s 2 bb _ H4.out (by omega) hs).mono ?_
  rintro e w3 ⟨rfl, H5, hu5⟩
  have HU5 := Lib.hid (HU4.out.trans hu5 (fun x _ h => h))
  have HB5 := Lib.hid (hu5.blk HB4.out (by omega))
  have HC5 := Lib.hid (hu5.blk HC4.out (by omega))
  clear hu5 HU4 H4 HB4 HC4
  have H5' := Lib.hid H5; clear H5
  have hn := rawN_le s
  have Hn2 := Lib.hid (show byt s 2 = (rawN s : Int) from (byt_nat s 2).symm)
  rw [Hn2.out]
  have HM : Mid s bb b1 w w3 0 (.slice none 0 0) := ⟨H5'.out, HB5.out, HC5.out, by simpa [rawTo] using World.ownsRow_nil w3 (b1 + 1) 3 1, HU5.out⟩
  clear H5' HB5 HC5 HU5
  obtain ⟨i0, hi0, hz0, hz1, hz2⟩ := info_parts Try.infoInt
  go_wp2_with fail
  go_loopw [4] (fun m wr => ∃ (i : Nat) (lv : Value), i ≤ rawN s ∧ 3 + i ≤ s.size ∧ m = .int .i64 ((rawN s : Int) - i) ∧ Mid s bb b1 w wr i lv) (fun m _ => (intOf m).toNat)
  case atStart => exact ⟨0, _, by omega, by omega, by simp, HM⟩
  case round =>
    obtain ⟨i, lv, hin, his, rfl, HMi⟩ := hrel
    clear HM
    by_cases hlt : i < rawN s
    · have hc2 := block_cell (j := 2) HMi.2.2.1 rfl
      have hne := own_ne HMi.2.2.2.1 HMi.2.2.1 (by decide)
      have hib : b1 < wr.heap.size := lt_of_block HMi.2.2.1
      have hiw : (0 : Int) < (rawN s : Int) - i := by omega
      by_cases hend : 3 + i < s.size
      · go_wp2_with fail
        go_region_law (first
            | (go_simp; go_at_call 95; refine (one_ok s (3 + i) bb _ (by exact HMi.1) hend hs).mono ?_; rintro e w4 ⟨rfl, h6, hu6⟩; have hv6 := hu6.of_drew; clear hu6; have hS4 := hv6.cell hc2 (by intro h; simp at h; omega); have hown4 := own_upd HMi.2.2.2.1 hv6 (by intro g hg h; have := (HMi.2.2.2.1.lt g hg).1; omega); have hsz4 := hv6.size; have hB4 := hv6.blk HMi.2.2.1 (by omega); have hb4 := lt_of_block hB4; have hS4a := fun o => (World.cell?_alloc_lt (w := w4) (o := o) (a := ⟨b1, 2, none⟩) hb4).trans hS4)
            | (refine step_append_lies _ (by rfl) _ _ _ (by rfl) (b1 + 1) 3 i0 _ 1 8 Try.underlying22 hi0 hz0 hz1 hz2 rfl (by omega) lv i _ (by rfl) (hown4.alloc _) ⟨w4.heap.size, 0, none⟩ 1 1 [.int .i64 (byt s (3 + i))] (by rfl) (by rfl) (World.news_of_block (cs := #[.int .i64 (byt s (3 + i))]) (t := 3) (fr := (0, 0)) (heap_alloc_new w4 _)) (by simp [Value.oneCell']) (by omega) (by unfold maxLen; omega) (by omega) (by simp; omega) (w4.heap.size + 1) (by simp) ?_; intro g cap w5 hown5 hgrow5 hat5 hlt5; have h5 := (hgrow5.block b1 (by simp; omega) (fun e => hne e.symm)).trans ((Below.heap_alloc _ _ _ hb4).trans hB4); have hS5 := block_cell (j := 2) h5 rfl; have hF5 := block_free (j := 2) h5))
        all_goals
          have HN := Lib.hid (mid_next hbb hs1 HMi h6 hv6 hown5 hgrow5 h5)
          clear hown5 hgrow5 h5 hS5 hF5 hS4a hB4 hown4 hv6 h6 hS4 hat5
          go_wp2
          go_roundw
          case rel => exact ⟨i + 1, _, by omega, by omega, by go_num, HN.out⟩
          case measure => simp [intOf]; omega
      · go_wp2_with fail
        go_big_unhide
        have hS : (fun x : World => x.cell? ⟨b1, 2, none⟩ = some lv) wr.drew := hc2
        refine wp_region_held (S := fun x : World => x.cell? ⟨b1, 2, none⟩ = some lv) (by kernel_rfl) ?_
        refine wpAnyH_take (i := 0) (v := .pointer (some ⟨b1, 2, none⟩)) rfl (by kernel_rfl) (by kernel_rfl) (by kernel_rfl) (fun _ _ _ h => h) (Or.inl ⟨by rfl, fun w hSw => ?_⟩) hS ?_
        · go_simp
        simp only [Act.put, List.setIfInBounds_toArray, List.set_cons_zero, List.set_cons_succ]
        refine wpAnyH_take (i := 1) (v := lv) rfl (by kernel_rfl) (by kernel_rfl) (by kernel_rfl) (fun _ _ _ h => h) (Or.inl ⟨by rfl, fun w hSw => ?_⟩) hS ?_
        · go_simp
        simp only [Act.put, List.setIfInBounds_toArray, List.set_cons_zero, List.set_cons_succ]
        refine wpAnyH_take (i := 2) (v := .pointer (some ⟨bb, 0, none⟩)) rfl (by kernel_rfl) (by kernel_rfl) (by kernel_rfl) (fun _ _ _ h => h) (Or.inl ⟨by rfl, fun w hSw => ?_⟩) hS ?_
        · rfl
        simp only [Act.put, List.setIfInBounds_toArray, List.set_cons_zero, List.set_cons_succ]
        refine wpAnyH_all (rs := [3]) (by kernel_rfl) (by simp) (fun j hj => ?_)
        obtain rfl : j = 3 := by simpa using hj
        refine Or.inl ?_
        go_simp
        refine (one_dies s (3 + i) bb _ (by exact HMi.1) (by omega) his hs).mono ?_
        rintro e w4 ⟨rfl, rfl⟩
        exact ⟨rfl, .inr ⟨Hnot.out (by omega), rfl, HMi.2.2.2.2.drew⟩⟩
    · obtain rfl : i = rawN s := by omega
      obtain ⟨m1, m2, m3, m4, m5⟩ := HMi
      have hsz := m5.size
      have M1 := Lib.hid m1; have M2 := Lib.hid m2; have M3 := Lib.hid m3; have M4 := Lib.hid m4; have M5 := Lib.hid m5
      clear m1 m2 m3 m4 m5
      go_wp2_with fail
      by_cases hend : 3 + rawN s < s.size
      · refine (one_ok s (3 + rawN s) bb _ M1.out hend hs).mono ?_
        rintro e w4 ⟨rfl, h6, hu6⟩
        have N1 := Lib.hid h6; clear h6
        have N2 := Lib.hid (hu6.blk M2.out (by omega))
        have N3 := Lib.hid (hu6.blk M3.out (by omega))
        have N5 := Lib.hid (M5.out.trans hu6 (fun x _ h => h))
        have N4 := Lib.hid (own_upd M4.out hu6 (by intro g hg h; have := (M4.out.lt g hg).1; omega))
        clear M1 M2 M3 M4 M5 hu6
        have hm := rawM_le s
        have Hm2 := Lib.hid (show byt s (3 + rawN s) = (rawM s : Int) from (byt_nat s (3 + rawN s)).symm)
        rw [Hm2.out]
        go_wp2_with fail
        by_cases hfit : 3 + rawN s + 1 + rawM s ≤ s.size
        · refine (take_ok s (3 + rawN s + 1) (rawM s) _ rfl bb _ N1.out hfit hs).mono ?_
          rintro e w5 ⟨rfl, h7, hu7⟩
          have R1 := Lib.hid h7; clear h7
          have R2 := Lib.hid (hu7.blk N2.out (by omega))
          have R3 := Lib.hid (hu7.blk N3.out (by omega))
          have R5 := Lib.hid (N5.out.trans hu7 (fun x _ h => h))
          have R4 := Lib.hid (own_upd N4.out hu7 (by intro g hg h; have := (N4.out.lt g hg).1; omega))
          clear N1 N2 N3 N4 N5 hu7
          have c3 := block_cell (j := 3) R3.out rfl
          have f3 := block_free (j := 3) R3.out
          have d0 := block_cell (j := 0) R2.out rfl
          have d1 := block_cell (j := 1) R2.out rfl
          have d2 := block_cell (j := 2) R2.out rfl
          have d3 := block_cell (j := 3) R2.out rfl
          have g0 := block_free (j := 0) R2.out
          have g1 := block_free (j := 1) R2.out
          have g2 := block_free (j := 2) R2.out
          have g3 := block_free (j := 3) R2.out
          have c0 := block_cell (j := 0) R3.out rfl
          have c1 := block_cell (j := 1) R3.out rfl
          have c2 := block_cell (j := 2) R3.out rfl
          have hneq : ¬ w.heap.size = b1 := by omega
          have hneq' : ¬ b1 = w.heap.size := by omega
          have hok : rawOk s := ⟨by omega, by omega, by omega⟩
          have HE := Lib.hid (object_end (wf := ((((w5.setCell ⟨b1, 3, none⟩ (.string (sub s (3 + rawN s + 1) (rawM s)))).setCell ⟨w.heap.size, 0, none⟩ (.int .i64 (byt s 0))).setCell ⟨w.heap.size, 1, none⟩ (.int .i64 (byt s 1))).setCell ⟨w.heap.size, 2, none⟩ lv).setCell ⟨w.heap.size, 3, none⟩ (.string (sub s (3 + rawN s + 1) (rawM s)))) hbb hs1 hs hok R1.out R4.out R5.out
            (Upd.setCell (Upd.setCell (Upd.setCell (Upd.setCell (Upd.setCell (Upd.refl _ _) (fun _ => .inl rfl) _) (fun _ => .inr rfl) _) (fun _ => .inr rfl) _) (fun _ => .inr rfl) _) (fun _ => .inr rfl) _))
          have Hok := Lib.hid hok; clear hok
          obtain ⟨aa, cc, hlv⟩ := own_shape R4.out
          subst hlv
          clear R1 R2 R3 R4 R5
          go_wp2
          refine bodyPost_ret (v := .agg #[.int .i64 (byt s 0), .int .i64 (byt s 1), .slice aa (rawN s) cc, .string (sub s (3 + rawN s + 1) (rawM s))]) ?_ rfl ?_
          · simp [results, Try.results77, go_sem, *]
          · refine .inl ⟨Hok.out, _, ?_, HE.out⟩
            rw [show 3 + rawN s + 1 = 4 + rawN s from by omega]; rfl
        · refine (take_dies s (3 + rawN s + 1) (rawM s) _ rfl bb _ N1.out (by omega) (by omega) hs).mono ?_
          rintro e w5 ⟨rfl, rfl⟩
          exact ⟨rfl, .inr ⟨Hnot.out (by omega), rfl, N5.out⟩⟩
      · refine (one_dies s (3 + rawN s) bb _ M1.out (by omega) his hs).mono ?_
        rintro e w4 ⟨rfl, rfl⟩
        exact ⟨rfl, .inr ⟨Hnot.out (by omega), rfl, M5.out⟩⟩
end Go.Proofs.Ytcppgkhkijejoaa
