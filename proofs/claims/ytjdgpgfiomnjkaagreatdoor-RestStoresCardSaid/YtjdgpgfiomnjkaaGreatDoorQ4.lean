
/- ObjB: Read, Read2, Told, Told2, Dec, Begun1. -/
import Derived.Test.YtjdgpgfiomnjkaaGreatDoorQ1
import Derived.Test.YtjdgpgfiomnjkaaGreatDoorQ0
import Derived.Deep.AppendLies
import Derived.Deep.RegionLaw
import Derived.Recover
import Derived.Defers
import Derived.RegionTactic
import Derived.BigRegion
import Derived.Deep.Upon
namespace Go.Proofs.YtjdgpgfiomnjkaaGreatDoor
open Go.RowKit
set_option linter.unusedVariables false
set_option linter.unusedSimpArgs false
set_option linter.unusedSectionVars false
variable [Ghost]
def short : List PanicEntry := [{ v := .iface 189 (.agg #[]), recovered := false }]
set_option maxHeartbeats 1000000 in
theorem take_ok (s : ByteArray) (k n : Nat) (m : Int) (hm : m = n) (bb : Nat) (w : World) (hb : w.heap[bb]? = some (.cells #[.string (rest s k)] 193 (0, 0))) (hk : k + n ≤ s.size) (hs : s.size ≤ 9223372036854775807) :
  Calls Tryz.prog 212 #[.pointer (some ⟨bb, 0, none⟩), .int .i64 m] w fun e w' => e = .returned (.string (sub s k n)) ∧
   w'.heap[bb]? = some (.cells #[.string (rest s (k + n))] 193 (0, 0)) ∧ Upd (fun b => b = bb) w w' := by
 have hc := cell_of_one hb
 have hf := free_of_one hb
 have hst := one_setCell (u := .string (rest s (k + n))) hb
 have Hst := Lib.hid hst
 have hz := rest_size (s := s) (k := k) (by omega)
 have h1 := rest_head hk
 have h2 := rest_tail hk
 rw [hz] at h2
 have hmn : m.toNat = n := by omega
 have hm0 : 0 ≤ m := by omega
 have hm1 : m ≤ (s.size : Int) - k := by omega
 have Hm := Lib.hid hm
 clear hm hst hb
 go_enter Tryz.func212, Tryz.ntmps212
 go_wp2
 go_ret
 exact ⟨rfl, Hst.out, Upd.setCell (T := fun b => b = bb) (Upd.refl _ _) (fun _ => rfl) _⟩
set_option maxHeartbeats 1000000 in
theorem take_dies (s : ByteArray) (k n : Nat) (m : Int) (hm : m = n) (bb : Nat) (w : World) (hb : w.heap[bb]? = some (.cells #[.string (rest s k)] 193 (0, 0))) (hk : s.size < k + n) (hk' : k ≤ s.size) (hs : s.size ≤ 9223372036854775807) :
  Calls Tryz.prog 212 #[.pointer (some ⟨bb, 0, none⟩), .int .i64 m] w fun e w' => e = .panicked short ∧ w = w' := by
 have hc := cell_of_one hb
 have hz := rest_size (s := s) (k := k) hk'
 have hm1 : (s.size : Int) - k < m := by omega
 have hkk : (k : Int) ≤ s.size := by omega
 clear hm hb
 go_enter Tryz.func212, Tryz.ntmps212
 go_wp2
 exact ⟨rfl, rfl, rfl⟩
set_option maxHeartbeats 1000000 in
theorem one_ok (s : ByteArray) (k : Nat) (bb : Nat) (w : World) (hb : w.heap[bb]? = some (.cells #[.string (rest s k)] 193 (0, 0))) (hk : k < s.size) (hs : s.size ≤ 9223372036854775807) :
  Calls Tryz.prog 211 #[.pointer (some ⟨bb, 0, none⟩)] w fun e w' => e = .returned (.int .i64 (byt s k)) ∧
   w'.heap[bb]? = some (.cells #[.string (rest s (k + 1))] 193 (0, 0)) ∧ Upd (fun b => b = bb) w w' := by
 have hix := fun w => index_sub (P := Tryz.prog) 9 Tryz.underlying9 (s := s) (k := k) (n := 1) (by omega) 0 (by omega) w
 have hby := byt_range s k
 go_enter Tryz.func211, Tryz.ntmps211
 go_wp2_with (go_at_call 212; refine (take_ok s k 1 _ (by rfl) bb _ hb (by omega) hs).mono ?_; rintro e w' ⟨rfl, h1, h2⟩; have H1 := Lib.hid h1; have H2 := Lib.hid h2; clear h1 h2)
 go_ret
 exact ⟨rfl, H1.out, H2.out⟩
set_option maxHeartbeats 1000000 in
theorem one_dies (s : ByteArray) (k : Nat) (bb : Nat) (w : World) (hb : w.heap[bb]? = some (.cells #[.string (rest s k)] 193 (0, 0))) (hk : s.size < k + 1) (hk' : k ≤ s.size) (hs : s.size ≤ 9223372036854775807) :
  Calls Tryz.prog 211 #[.pointer (some ⟨bb, 0, none⟩)] w fun e w' => e = .panicked short ∧ w = w' := by
 go_enter Tryz.func211, Tryz.ntmps211
 go_wp2_with (go_at_call 212; refine (take_dies s k 1 _ (by rfl) bb _ hb (by omega) (by omega) hs).mono ?_; rintro e w' ⟨rfl, rfl⟩)
 exact ⟨rfl, rfl, rfl⟩
end Go.Proofs.YtjdgpgfiomnjkaaGreatDoor
namespace Go.Proofs.YtjdgpgfiomnjkaaGreatDoor
open Go.RowKit
set_option linter.unusedVariables false
set_option linter.unusedSimpArgs false
set_option linter.unusedSectionVars false
variable [Ghost]
theorem Tryz.infoInt : (Tryz.prog.info? 3).map (fun i => (i.zero, i.size, i.bytes)) = some (some (.int .i64 0), 1, 8) := by kernel_rfl
def ObjRead (s : ByteArray) (bb : Nat) (w : World) (e : Ending) (w' : World) : Prop :=
 (rawOk s ∧ ∃ lv, e = .returned (.agg #[.int .i64 (rawObj s).id, .int .i64 (rawObj s).kind, lv, .string (rawObj s).text]) ∧ ObjIs (fun b => w.heap.size ≤ b) w' (rawObj s) lv ∧
  w'.heap[bb]? = some (.cells #[.string (rest s (rawLen s))] 193 (0, 0)) ∧ Upd (fun b => b = bb) w w') ∨
 (¬ rawOk s ∧ e = .panicked short ∧ Upd (fun b => b = bb) w w')
def zeroObj : Go.Obj := .cells #[.int .i64 0, .int .i64 0, .slice none 0 0, .string ⟨#[]⟩] 46
def Mid (s : ByteArray) (bb b1 : Nat) (w wr : World) (i : Nat) (lv : Value) : Prop :=
 wr.heap[bb]? = some (.cells #[.string (rest s (3 + i))] 193 (0, 0)) ∧ wr.heap[w.heap.size]? = some zeroObj ∧
 wr.heap[b1]? = some (.cells #[.int .i64 (byt s 0), .int .i64 (byt s 1), lv, .string ⟨#[]⟩] 46 (0, 0)) ∧
 wr.ownsRow (b1 + 1) 3 1 lv i ((rawTo s i).map (Value.int .i64)) ∧ Upd (fun b => b = bb) w wr
theorem mid_next {s : ByteArray} {bb b1 i g cap : Nat} {w wr w4 w5 : World} {lv : Value} {o : Go.Obj} (hbb : bb < w.heap.size) (hs1 : w.heap.size + 1 ≤ b1) (hM : Mid s bb b1 w wr i lv)
  (h6 : w4.heap[bb]? = some (.cells #[.string (rest s (3 + i + 1))] 193 (0, 0))) (hv6 : Upd (fun b => b = bb) wr w4)
  (hown : w5.ownsRow (b1 + 1) 3 1 (.slice (some ⟨g, 0, none⟩) (i + 1) cap) (i + 1) ((rawTo s i).map (Value.int .i64) ++ [.int .i64 (byt s (3 + i))]))
  (hgrow : (w4.alloc o).grownBy w5 lv.ownBlock) (h5 : w5.heap[b1]? = some (.cells #[.int .i64 (byt s 0), .int .i64 (byt s 1), lv, .string ⟨#[]⟩] 46 (0, 0))) :
  Mid s bb b1 w (w5.setCell ⟨b1, 2, none⟩ (.slice (some ⟨g, 0, none⟩) (i + 1) cap)) (i + 1) (.slice (some ⟨g, 0, none⟩) (i + 1) cap) := by
 obtain ⟨m1, m2, m3, m4, m5⟩ := hM
 have hz := hv6.size
 have hz5 := m5.size
 have hlv : ∀ k, lv.ownBlock = some k → b1 + 1 ≤ k := fun k hk => (m4.lt k hk).1
 have k1 := (Below.heap_setCell w5 ⟨b1, 2, none⟩ (.slice (some ⟨g, 0, none⟩) (i + 1) cap) bb (by simp; omega)).trans
  ((hgrow.block bb (by simp; omega) (fun e => by have := hlv bb e.symm; omega)).trans ((Below.heap_alloc w4 o bb (by omega)).trans h6))
 have h4 := hv6.blk m2 (by omega)
 have k2 := (Below.heap_setCell w5 ⟨b1, 2, none⟩ (.slice (some ⟨g, 0, none⟩) (i + 1) cap) w.heap.size (by simp; omega)).trans
  ((hgrow.block w.heap.size (by simp; have := lt_of_block h4; omega) (fun e => by have := hlv _ e.symm; omega)).trans ((Below.heap_alloc w4 o _ (lt_of_block h4)).trans h4))
 have hne := own_ne hown h5 (by decide)
 refine ⟨by rw [show 3 + (i + 1) = 3 + i + 1 from by omega]; exact k1, k2, block_setCell (j := 2) h5 _, ?_, ?_⟩
 ·rw [rawTo_next, List.map_append]
  exact ownsRow_setCell_other hown hne _
 ·refine Upd.setCell ?_ (fun h => by simp at h; omega) _
  refine Upd.grown ((m5.trans hv6 (fun x _ h => h)).alloc o) hgrow (fun k hk hlt => ?_)
  have := hlv k hk; omega
theorem object_end {s : ByteArray} {bb b1 : Nat} {w w5 wf : World} {lv : Value} (hbb : bb < w.heap.size) (hs1 : w.heap.size + 1 ≤ b1) (hs : s.size ≤ 9223372036854775807) (hok : rawOk s)
  (h1 : w5.heap[bb]? = some (.cells #[.string (rest s (3 + rawN s + 1 + rawM s))] 193 (0, 0)))
  (h4 : w5.ownsRow (b1 + 1) 3 1 lv (rawN s) ((rawTo s (rawN s)).map (Value.int .i64))) (h5 : Upd (fun b => b = bb) w w5) (hf : Upd (fun b => b = b1 ∨ b = w.heap.size) w5 wf) :
  ObjIs (fun b => w.heap.size ≤ b) wf (rawObj s) lv ∧ wf.heap[bb]? = some (.cells #[.string (rest s (rawLen s))] 193 (0, 0)) ∧ Upd (fun b => b = bb) w wf := by
 have hn := rawN_le s
 have hm := rawM_le s
 have hlt : ∀ g, lv.ownBlock = some g → b1 + 1 ≤ g := fun g hg => (h4.lt g hg).1
 have h4' := own_upd h4 hf (fun g hg h => by have := hlt g hg; omega)
 have hb0 := byt_range s 0
 have hb1 := byt_range s 1
 refine ⟨⟨⟨?_, rawTo_i64 s _⟩, by unfold I64; simp only [rawObj]; omega, by unfold I64; simp only [rawObj]; omega, ?_⟩, ?_, h5.trans hf (fun x hx h => by omega)⟩
 ·show Sl _ _ _ 1 8 (rawTo s (rawN s)).length _
  rw [rawTo_length]
  refine own_sl h4' (fun g hg => by have := hlt g hg; omega) (by omega) (fun i hi j u hu => ?_)
  match j, hu with
  | 0, hu =>
   simp only [List.getElem?_cons_zero, Option.some.injEq] at hu
   subst hu
   rw [Nat.mul_one, Nat.add_zero, List.getElem?_map, List.getElem?_eq_getElem (by rw [rawTo_length]; exact hi), Option.map_some]
   show _ = some (Value.int .i64 (nth (rawTo s (rawN s)) i))
   rw [nth_lt (by rw [rawTo_length]; exact hi)]
 ·show (sub s (4 + rawN s) (rawM s)).size ≤ _
  rw [sub_size hok.2.2]; omega
 ·rw [show rawLen s = 3 + rawN s + 1 + rawM s from by unfold rawLen; omega]
  exact hf.blk h1 (by omega)
set_option maxRecDepth 100000 in
set_option maxHeartbeats 4000000 in
theorem object_any (s : ByteArray) (bb : Nat) (w : World) (hb : w.heap[bb]? = some (.cells #[.string s] 193 (0, 0))) (hs : s.size ≤ 9223372036854775807) :
  Calls Tryz.prog 156 #[.pointer (some ⟨bb, 0, none⟩)] w (ObjRead s bb w) := by
 rw [← rest_zero s] at hb
 have hbb := lt_of_block hb
 have Hnot : Hid (∀ (h : s.size < 3 ∨ s.size < 4 + rawN s ∨ s.size < 4 + rawN s + rawM s), ¬ rawOk s) := by
  intro h h'; obtain ⟨h1, h2, h3⟩ := h'; omega
 have h0 : (w.alloc zeroObj).heap[bb]? = some (.cells #[.string (rest s 0)] 193 (0, 0)) := by
  rw [Below.heap_alloc _ _ _ hbb]; exact hb
 have hB0 : (w.alloc zeroObj).heap[w.heap.size]? = some zeroObj := heap_alloc_new w _
 have H0 := Lib.hid h0; clear h0 hb
 have HU0 := Lib.hid ((Upd.refl (fun b => b = bb) w).alloc zeroObj)
 have HB0 := Lib.hid hB0; clear hB0
 unfold zeroObj at H0 HU0 HB0
 go_enter Tryz.func156, Tryz.ntmps156
 go_wp2_with fail
 by_cases h1 : s.size < 1
 ·refine (one_dies s 0 bb _ H0.out (by omega) (by omega) hs).mono ?_
  rintro e w' ⟨rfl, rfl⟩
  exact ⟨rfl, .inr ⟨Hnot.out (by omega), rfl, HU0.out⟩⟩
 refine (one_ok s 0 bb _ H0.out (by omega) hs).mono ?_
 rintro e w1 ⟨rfl, H1, hu1⟩
 -- o lies in the next block
 have HU1 := Lib.hid (HU0.out.trans hu1 (fun x _ h => h))
 have hB1 := hu1.blk HB0.out (by omega)
 have hs1 := hu1.size
 simp only [World.size_alloc] at hs1
 have HB1 := Lib.hid hB1; clear hB1 hu1 HU0 HB0 H0
 have H1' := Lib.hid H1; clear H1
 go_wp2_with fail
 have HU2 := Lib.hid (HU1.out.alloc (.cells #[.int .i64 (byt s 0), .int .i64 0, .slice none 0 0, .string ⟨#[]⟩] 46))
 have H2 := Lib.hid ((Below.heap_alloc w1 (.cells #[.int .i64 (byt s 0), .int .i64 0, .slice none 0 0, .string ⟨#[]⟩] 46) bb (lt_of_block H1'.out)).trans H1'.out)
 have HB2 := Lib.hid ((Below.heap_alloc w1 (.cells #[.int .i64 (byt s 0), .int .i64 0, .slice none 0 0, .string ⟨#[]⟩] 46) w.heap.size (by omega)).trans HB1.out)
 have HC2 := Lib.hid (heap_alloc_new w1 (.cells #[.int .i64 (byt s 0), .int .i64 0, .slice none 0 0, .string ⟨#[]⟩] 46))
 by_cases h2 : s.size < 2
 ·refine (one_dies s 1 bb _ H2.out (by omega) (by omega) hs).mono ?_
  rintro e w' ⟨rfl, rfl⟩
  exact ⟨rfl, .inr ⟨Hnot.out (by omega), rfl, HU2.out⟩⟩
 refine (one_ok s 1 bb _ H2.out (by omega) hs).mono ?_
 rintro e w2 ⟨rfl, H3, hu3⟩
 have HU3 := Lib.hid (HU2.out.trans hu3 (fun x _ h => h))
 have HB3 := Lib.hid (hu3.blk HB2.out (by omega))
 have HC3 := Lib.hid (hu3.blk HC2.out (by omega))
 clear hu3 HU2 H2 HB2 HC2 HU1 HB1 H1'
 have H3' := Lib.hid H3; clear H3
 generalize w1.heap.size = b1 at *
 have c1 := block_cell (j := 1) HC3.out rfl
 have f1 := block_free (j := 1) HC3.out
 go_wp2_with fail
 have HU4 := Lib.hid (HU3.out.setCell (p := ⟨b1, 1, none⟩) (fun h => by simp at h; omega) (.int .i64 (byt s 1)))
 have H4 := Lib.hid ((Below.heap_setCell w2 ⟨b1, 1, none⟩ (.int .i64 (byt s 1)) bb (by simp; omega)).trans H3'.out)
 have HB4 := Lib.hid ((Below.heap_setCell w2 ⟨b1, 1, none⟩ (.int .i64 (byt s 1)) w.heap.size (by simp; omega)).trans HB3.out)
 have HC4 := Lib.hid (block_setCell (j := 1) HC3.out (.int .i64 (byt s 1)))
 clear HU3 H3' HB3 HC3 c1 f1
 by_cases h3 : s.size < 3
 ·refine (one_dies s 2 bb _ H4.out (by omega) (by omega) hs).mono ?_
  rintro e w' ⟨rfl, rfl⟩
  exact ⟨rfl, .inr ⟨Hnot.out (by omega), rfl, HU4.out⟩⟩
 refine (one_ok s 2 bb _ H4.out (by omega) hs).mono ?_
 rintro e w3 ⟨rfl, H5, hu5⟩
 have HU5 := Lib.hid (HU4.out.trans hu5 (fun x _ h => h))
 have HB5 := Lib.hid (hu5.blk HB4.out (by omega))
 have HC5 := Lib.hid (hu5.blk HC4.out (by omega))
 clear hu5 HU4 H4 HB4 HC4
 have H5' := Lib.hid H5; clear H5
 have hn := rawN_le s
 have Hn2 := Lib.hid (show byt s 2 = (rawN s : Int) from (byt_nat s 2).symm)
 rw [Hn2.out]
 have HM : Mid s bb b1 w w3 0 (.slice none 0 0) := ⟨H5'.out, HB5.out, HC5.out, by simpa [rawTo] using World.ownsRow_nil w3 (b1 + 1) 3 1, HU5.out⟩
 clear H5' HB5 HC5 HU5
 obtain ⟨i0, hi0, hz0, hz1, hz2⟩ := info_parts Tryz.infoInt
 go_wp2_with fail
 go_loopw [4] (fun m wr => ∃ (i : Nat) (lv : Value), i ≤ rawN s ∧ 3 + i ≤ s.size ∧ m = .int .i64 ((rawN s : Int) - i) ∧ Mid s bb b1 w wr i lv) (fun m _ => (intOf m).toNat)
 case atStart => exact ⟨0, _, by omega, by omega, by simp, HM⟩
 case round =>
  obtain ⟨i, lv, hin, his, rfl, HMi⟩ := hrel
  clear HM
  by_cases hlt : i < rawN s
  ·have hc2 := block_cell (j := 2) HMi.2.2.1 rfl
   have hne := own_ne HMi.2.2.2.1 HMi.2.2.1 (by decide)
   have hib : b1 < wr.heap.size := lt_of_block HMi.2.2.1
   have hiw : (0 : Int) < (rawN s : Int) - i := by omega
   by_cases hend : 3 + i < s.size
   ·go_wp2_with fail
    go_region_law (first
      | (go_simp; go_at_call 211; refine (one_ok s (3 + i) bb _ (by exact HMi.1) hend hs).mono ?_; rintro e w4 ⟨rfl, h6, hu6⟩; have hv6 := hu6.of_drew; clear hu6; have hS4 := hv6.cell hc2 (by intro h; simp at h; omega); have hown4 := own_upd HMi.2.2.2.1 hv6 (by intro g hg h; have := (HMi.2.2.2.1.lt g hg).1; omega); have hsz4 := hv6.size; have hB4 := hv6.blk HMi.2.2.1 (by omega); have hb4 := lt_of_block hB4; have hS4a := fun o => (World.cell?_alloc_lt (w := w4) (o := o) (a := ⟨b1, 2, none⟩) hb4).trans hS4)
      | (refine step_append_lies _ (by rfl) _ _ _ (by rfl) (b1 + 1) 3 i0 _ 1 8 Tryz.underlying44 hi0 hz0 hz1 hz2 rfl (by omega) lv i _ (by rfl) (hown4.alloc _) ⟨w4.heap.size, 0, none⟩ 1 1 [.int .i64 (byt s (3 + i))] (by rfl) (by rfl) (World.news_of_block (cs := #[.int .i64 (byt s (3 + i))]) (t := 3) (fr := (0, 0)) (heap_alloc_new w4 _)) (by simp [Value.oneCell']) (by omega) (by unfold maxLen; omega) (by omega) (by simp; omega) (w4.heap.size + 1) (by simp) ?_; intro g cap w5 hown5 hgrow5 hat5 hlt5; have h5 := (hgrow5.block b1 (by simp; omega) (fun e => hne e.symm)).trans ((Below.heap_alloc _ _ _ hb4).trans hB4); have hS5 := block_cell (j := 2) h5 rfl; have hF5 := block_free (j := 2) h5))
    all_goals
     have HN := Lib.hid (mid_next hbb hs1 HMi h6 hv6 hown5 hgrow5 h5)
     clear hown5 hgrow5 h5 hS5 hF5 hS4a hB4 hown4 hv6 h6 hS4 hat5
     go_wp2
     go_roundw
     case rel => exact ⟨i + 1, _, by omega, by omega, by go_num, HN.out⟩
     case measure => simp [intOf]; omega
   ·go_wp2_with fail
    go_big_unhide
    have hS : (fun x : World => x.cell? ⟨b1, 2, none⟩ = some lv) wr.drew := hc2
    refine wp_region_held (S := fun x : World => x.cell? ⟨b1, 2, none⟩ = some lv) (by kernel_rfl) ?_
    refine wpAnyH_take (i := 0) (v := .pointer (some ⟨b1, 2, none⟩)) rfl (by kernel_rfl) (by kernel_rfl) (by kernel_rfl) (fun _ _ _ h => h) (Or.inl ⟨by rfl, fun w hSw => ?_⟩) hS ?_
    ·go_simp
    simp only [Act.put, List.setIfInBounds_toArray, List.set_cons_zero, List.set_cons_succ]
    refine wpAnyH_take (i := 1) (v := lv) rfl (by kernel_rfl) (by kernel_rfl) (by kernel_rfl) (fun _ _ _ h => h) (Or.inl ⟨by rfl, fun w hSw => ?_⟩) hS ?_
    ·go_simp
    simp only [Act.put, List.setIfInBounds_toArray, List.set_cons_zero, List.set_cons_succ]
    refine wpAnyH_take (i := 2) (v := .pointer (some ⟨bb, 0, none⟩)) rfl (by kernel_rfl) (by kernel_rfl) (by kernel_rfl) (fun _ _ _ h => h) (Or.inl ⟨by rfl, fun w hSw => ?_⟩) hS ?_
    ·rfl
    simp only [Act.put, List.setIfInBounds_toArray, List.set_cons_zero, List.set_cons_succ]
    refine wpAnyH_all (rs := [3]) (by kernel_rfl) (by simp) (fun j hj => ?_)
    obtain rfl : j = 3 := by simpa using hj
    refine Or.inl ?_
    go_simp
    refine (one_dies s (3 + i) bb _ (by exact HMi.1) (by omega) his hs).mono ?_
    rintro e w4 ⟨rfl, rfl⟩
    exact ⟨rfl, .inr ⟨Hnot.out (by omega), rfl, HMi.2.2.2.2.drew⟩⟩
  ·obtain rfl : i = rawN s := by omega
   obtain ⟨m1, m2, m3, m4, m5⟩ := HMi
   have hsz := m5.size
   have M1 := Lib.hid m1; have M2 := Lib.hid m2; have M3 := Lib.hid m3; have M4 := Lib.hid m4; have M5 := Lib.hid m5
   clear m1 m2 m3 m4 m5
   go_wp2_with fail
   by_cases hend : 3 + rawN s < s.size
   ·refine (one_ok s (3 + rawN s) bb _ M1.out hend hs).mono ?_
    rintro e w4 ⟨rfl, h6, hu6⟩
    have N1 := Lib.hid h6; clear h6
    have N2 := Lib.hid (hu6.blk M2.out (by omega))
    have N3 := Lib.hid (hu6.blk M3.out (by omega))
    have N5 := Lib.hid (M5.out.trans hu6 (fun x _ h => h))
    have N4 := Lib.hid (own_upd M4.out hu6 (by intro g hg h; have := (M4.out.lt g hg).1; omega))
    clear M1 M2 M3 M4 M5 hu6
    have hm := rawM_le s
    have Hm2 := Lib.hid (show byt s (3 + rawN s) = (rawM s : Int) from (byt_nat s (3 + rawN s)).symm)
    rw [Hm2.out]
    go_wp2_with fail
    by_cases hfit : 3 + rawN s + 1 + rawM s ≤ s.size
    ·refine (take_ok s (3 + rawN s + 1) (rawM s) _ rfl bb _ N1.out hfit hs).mono ?_
     rintro e w5 ⟨rfl, h7, hu7⟩
     have R1 := Lib.hid h7; clear h7
     have R2 := Lib.hid (hu7.blk N2.out (by omega))
     have R3 := Lib.hid (hu7.blk N3.out (by omega))
     have R5 := Lib.hid (N5.out.trans hu7 (fun x _ h => h))
     have R4 := Lib.hid (own_upd N4.out hu7 (by intro g hg h; have := (N4.out.lt g hg).1; omega))
     clear N1 N2 N3 N4 N5 hu7
     have c3 := block_cell (j := 3) R3.out rfl
     have f3 := block_free (j := 3) R3.out
     have d0 := block_cell (j := 0) R2.out rfl
     have d1 := block_cell (j := 1) R2.out rfl
     have d2 := block_cell (j := 2) R2.out rfl
     have d3 := block_cell (j := 3) R2.out rfl
     have g0 := block_free (j := 0) R2.out
     have g1 := block_free (j := 1) R2.out
     have g2 := block_free (j := 2) R2.out
     have g3 := block_free (j := 3) R2.out
     have c0 := block_cell (j := 0) R3.out rfl
     have c1 := block_cell (j := 1) R3.out rfl
     have c2 := block_cell (j := 2) R3.out rfl
     have hneq : ¬ w.heap.size = b1 := by omega
     have hneq' : ¬ b1 = w.heap.size := by omega
     have hok : rawOk s := ⟨by omega, by omega, by omega⟩
     have HE := Lib.hid (object_end (wf := ((((w5.setCell ⟨b1, 3, none⟩ (.string (sub s (3 + rawN s + 1) (rawM s)))).setCell ⟨w.heap.size, 0, none⟩ (.int .i64 (byt s 0))).setCell ⟨w.heap.size, 1, none⟩ (.int .i64 (byt s 1))).setCell ⟨w.heap.size, 2, none⟩ lv).setCell ⟨w.heap.size, 3, none⟩ (.string (sub s (3 + rawN s + 1) (rawM s)))) hbb hs1 hs hok R1.out R4.out R5.out
      (Upd.setCell (Upd.setCell (Upd.setCell (Upd.setCell (Upd.setCell (Upd.refl _ _) (fun _ => .inl rfl) _) (fun _ => .inr rfl) _) (fun _ => .inr rfl) _) (fun _ => .inr rfl) _) (fun _ => .inr rfl) _))
     have Hok := Lib.hid hok; clear hok
     obtain ⟨aa, cc, hlv⟩ := own_shape R4.out
     subst hlv
     clear R1 R2 R3 R4 R5
     go_wp2
     refine bodyPost_ret (v := .agg #[.int .i64 (byt s 0), .int .i64 (byt s 1), .slice aa (rawN s) cc, .string (sub s (3 + rawN s + 1) (rawM s))]) ?_ rfl ?_
     ·simp [results, Tryz.results156, go_sem, *]
     ·refine .inl ⟨Hok.out, _, ?_, HE.out⟩
      rw [show 3 + rawN s + 1 = 4 + rawN s from by omega]; rfl
    ·refine (take_dies s (3 + rawN s + 1) (rawM s) _ rfl bb _ N1.out (by omega) (by omega) hs).mono ?_
     rintro e w5 ⟨rfl, rfl⟩
     exact ⟨rfl, .inr ⟨Hnot.out (by omega), rfl, N5.out⟩⟩
   ·refine (one_dies s (3 + rawN s) bb _ M1.out (by omega) his hs).mono ?_
    rintro e w4 ⟨rfl, rfl⟩
    exact ⟨rfl, .inr ⟨Hnot.out (by omega), rfl, M5.out⟩⟩
end Go.Proofs.YtjdgpgfiomnjkaaGreatDoor
namespace Go.Proofs.YtjdgpgfiomnjkaaGreatDoor
open Go.RowKit
set_option linter.unusedVariables false
set_option linter.unusedSimpArgs false
set_option linter.unusedSectionVars false
variable [Ghost]
theorem told_idle (p0 p1 p2 : Addr) (w : World) :
  CallsD Tryz.prog 155 #[.pointer (some p0), .pointer (some p1), .pointer (some p2)] .returning w fun e u' w' => e = .returned (.tuple #[]) ∧ u' = .returning ∧ w' = w := by
 refine callsD_of_wpS Tryz.func155 rfl fun c₀ cs hu => ?_
 apply wpS_seq
 apply wpS_region
 simp [wpOpsS, go_sem, recoverD, hu, Tryz.ntmps155, Exit.thenS]
 refine wpS_of_wp (wp_mono (Q := fun e a' w' => (e = .normal ∨ e = .ret) ∧ a'.defers = [] ∧ w' = w) ?_ ?_)
 ·simp only [Array.replicate_succ, Array.replicate_zero, List.push_toArray, List.setIfInBounds_toArray, List.set_cons_zero, List.set_cons_succ, List.append_toArray, List.nil_append, List.cons_append]
  go_wp2
 ·rintro e a' w' ⟨he, hd, rfl⟩
  have hc : c₀ :: cs = { c₀ with mode := .returning } :: cs := by cases c₀; simp_all
  rcases he with rfl | rfl
  ·exact ⟨hd, _, hc, _, results_none rfl _ _ _, rfl, rfl, rfl⟩
  ·exact ⟨hd, _, hc, _, results_none rfl _ _ _, rfl, rfl, rfl⟩
def toldWorld (b0 b1 b2 : Nat) (w : World) : World :=
 ((((((w.setCell ⟨b0, 0, none⟩ (.int .i64 0)).setCell ⟨b0, 1, none⟩ (.int .i64 0)).setCell ⟨b0, 2, none⟩ (.slice none 0 0)).setCell ⟨b0, 3, none⟩ (.string ⟨#[]⟩)).setCell ⟨b1, 0, none⟩ (.int .i64 0)).setCell ⟨b2, 0, none⟩ (.bool false)).alloc (.cells #[] 189)
theorem toldWorld_is {b0 b1 b2 : Nat} {w : World} {v0 v1 v2 v3 m k : Value}
  (h0 : w.heap[b0]? = some (.cells #[v0, v1, v2, v3] 46 (0, 0))) (h1 : w.heap[b1]? = some (.cells #[m] 3 (0, 0))) (h2 : w.heap[b2]? = some (.cells #[k] 4 (0, 0))) (h01 : b0 < b1) (h12 : b1 < b2) :
  (toldWorld b0 b1 b2 w).heap[b0]? = some (.cells #[.int .i64 0, .int .i64 0, .slice none 0 0, .string ⟨#[]⟩] 46 (0, 0)) ∧ (toldWorld b0 b1 b2 w).heap[b1]? = some (.cells #[.int .i64 0] 3 (0, 0)) ∧
   (toldWorld b0 b1 b2 w).heap[b2]? = some (.cells #[.bool false] 4 (0, 0)) ∧ Upd (fun b => b = b0 ∨ b = b1 ∨ b = b2) w (toldWorld b0 b1 b2 w) := by
 have s0 := lt_of_block h0
 have s1 := lt_of_block h1
 have s2 := lt_of_block h2
 have u : Upd (fun b => b = b0 ∨ b = b1 ∨ b = b2) w (toldWorld b0 b1 b2 w) :=
  Upd.alloc (Upd.setCell (Upd.setCell (Upd.setCell (Upd.setCell (Upd.setCell (Upd.setCell (Upd.refl _ _) (fun _ => .inl rfl) _) (fun _ => .inl rfl) _) (fun _ => .inl rfl) _) (fun _ => .inl rfl) _) (fun _ => .inr (.inl rfl)) _) (fun _ => .inr (.inr rfl)) _) _
 refine ⟨?_, ?_, ?_, u⟩
 ·unfold toldWorld
  rw [Below.heap_alloc _ _ _ (by simp [World.setCell]; omega), Below.heap_setCell _ _ _ _ (by simp; omega), Below.heap_setCell _ _ _ _ (by simp; omega)]
  exact block_setCell (j := 3) (block_setCell (j := 2) (block_setCell (j := 1) (block_setCell (j := 0) h0 _) _) _) _
 ·unfold toldWorld
  rw [Below.heap_alloc _ _ _ (by simp [World.setCell]; omega), Below.heap_setCell _ _ _ _ (by simp; omega)]
  refine block_setCell (j := 0) (cs := #[m]) ?_ _
  rw [Below.heap_setCell _ _ _ _ (by simp; omega), Below.heap_setCell _ _ _ _ (by simp; omega), Below.heap_setCell _ _ _ _ (by simp; omega), Below.heap_setCell _ _ _ _ (by simp; omega)]
  exact h1
 ·unfold toldWorld
  rw [Below.heap_alloc _ _ _ (by simp [World.setCell]; omega)]
  refine block_setCell (j := 0) (cs := #[k]) ?_ _
  rw [Below.heap_setCell _ _ _ _ (by simp; omega), Below.heap_setCell _ _ _ _ (by simp; omega), Below.heap_setCell _ _ _ _ (by simp; omega), Below.heap_setCell _ _ _ _ (by simp; omega), Below.heap_setCell _ _ _ _ (by simp; omega)]
  exact h2
theorem assert_short (w : World) : (Instr.typeAssert (.iface 189 (.agg #[])) 20 189 true).run Tryz.prog w = .ok (.tuple #[.agg #[], .bool true]) w := by kernel_rfl
set_option maxRecDepth 100000 in
set_option maxHeartbeats 1000000 in
theorem told_caught (b0 b1 b2 : Nat) (w : World) (v0 v1 v2 v3 m k : Value)
  (h0 : w.heap[b0]? = some (.cells #[v0, v1, v2, v3] 46 (0, 0))) (h1 : w.heap[b1]? = some (.cells #[m] 3 (0, 0))) (h2 : w.heap[b2]? = some (.cells #[k] 4 (0, 0))) (h01 : b0 < b1) (h12 : b1 < b2) :
  CallsD Tryz.prog 155 #[.pointer (some ⟨b0, 0, none⟩), .pointer (some ⟨b1, 0, none⟩), .pointer (some ⟨b2, 0, none⟩)] (.panicking short) w fun e u' w' =>
   e = .returned (.tuple #[]) ∧ u' = .panicking [{ v := .iface 189 (.agg #[]), recovered := true }] ∧
   w'.heap[b0]? = some (.cells #[.int .i64 0, .int .i64 0, .slice none 0 0, .string ⟨#[]⟩] 46 (0, 0)) ∧ w'.heap[b1]? = some (.cells #[.int .i64 0] 3 (0, 0)) ∧
   w'.heap[b2]? = some (.cells #[.bool false] 4 (0, 0)) ∧ Upd (fun b => b = b0 ∨ b = b1 ∨ b = b2) w w' := by
 refine callsD_of_wpS Tryz.func155 rfl fun c₀ cs hu => ?_
 apply wpS_seq
 apply wpS_region
 unfold short at hu
 simp [wpOpsS, go_sem, recoverD, hu, Tryz.ntmps155, Exit.thenS]
 have s0 := lt_of_block h0
 have s1 := lt_of_block h1
 have s2 := lt_of_block h2
 have c0 := block_cell (j := 0) h0 rfl
 have c1 := block_cell (j := 1) h0 rfl
 have c2 := block_cell (j := 2) h0 rfl
 have c3 := block_cell (j := 3) h0 rfl
 have f0 := block_free (j := 0) h0
 have f1 := block_free (j := 1) h0
 have f2 := block_free (j := 2) h0
 have f3 := block_free (j := 3) h0
 have d1 := block_cell (j := 0) h1 rfl
 have g1 := block_free (j := 0) h1
 have d2 := block_cell (j := 0) h2 rfl
 have g2 := block_free (j := 0) h2
 have hta := assert_short
 have n1 : ¬ b0 = b1 := by omega
 have n2 : ¬ b0 = b2 := by omega
 have n3 : ¬ b1 = b2 := by omega
 have n4 : ¬ b1 = b0 := by omega
 have n5 : ¬ b2 = b0 := by omega
 have n6 : ¬ b2 = b1 := by omega
 have H0 := Lib.hid h0
 have H1 := Lib.hid h1
 have H2 := Lib.hid h2
 have Hu := Lib.hid hu
 clear h0 h1 h2 hu
 refine wpS_of_wp (wp_mono (Q := fun e a' w' => (e = .normal ∨ e = .ret) ∧ a'.defers = [] ∧ w' = toldWorld b0 b1 b2 w) ?_ ?_)
 ·simp only [Array.replicate_succ, Array.replicate_zero, List.push_toArray, List.setIfInBounds_toArray, List.set_cons_zero, List.set_cons_succ, List.append_toArray, List.nil_append, List.cons_append]
  go_wp2
  rfl
 ·rintro e a' w' ⟨he, hd, rfl⟩
  have hT := toldWorld_is H0.out H1.out H2.out h01 h12
  rcases he with rfl | rfl
  ·exact ⟨hd, _, rfl, _, results_none rfl _ _ _, rfl, rfl, hT⟩
  ·exact ⟨hd, _, rfl, _, results_none rfl _ _ _, rfl, rfl, hT⟩
end Go.Proofs.YtjdgpgfiomnjkaaGreatDoor
namespace Go.Proofs.YtjdgpgfiomnjkaaGreatDoor
open Go.RowKit
set_option linter.unusedVariables false
set_option linter.unusedSimpArgs false
set_option linter.unusedSectionVars false
variable [Ghost]
def ToldIs (s : ByteArray) (w : World) (e : Ending) (w' : World) : Prop :=
  ((rawOk s ∧ ∃ lv, e = .returned (.tuple #[.agg #[.int .i64 (rawObj s).id, .int .i64 (rawObj s).kind, lv, .string (rawObj s).text], .int .i64 (rawLen s), .bool true]) ∧ ObjIs (fun b => w.heap.size ≤ b) w' (rawObj s) lv) ∨
   (¬ rawOk s ∧ e = .returned (.tuple #[.agg #[.int .i64 0, .int .i64 0, .slice none 0 0, .string ⟨#[]⟩], .int .i64 0, .bool false]))) ∧ Below w.heap.size w w'
theorem Sl.upd {S T : Nat → Prop} {w w' : World} {v : Value} {sz bts n : Nat} {cs : Nat → List Value} (h : Sl S w v sz bts n cs) (hu : Upd T w w') (hT : ∀ b, S b → ¬ T b) : Sl S w' v sz bts n cs := by
 obtain ⟨a, cap, hv, h1, h2, h3, h4⟩ := h
 refine ⟨a, cap, hv, h1, h2, h3, fun hn => ?_⟩
 obtain ⟨b, off, ha, hS, hc⟩ := h4 hn
 exact ⟨b, off, ha, ⟨hS.1, hS.2.same fun hl => hu.block b hl (hT b hS.1)⟩, fun i hi j u hu' => hu.cell (hc i hi j u hu') (hT b hS.1)⟩
theorem IntsV.upd {S T : Nat → Prop} {w w' : World} {v : Value} {xs : List Int} (h : IntsV S w v xs) (hu : Upd T w w') (hT : ∀ b, S b → ¬ T b) : IntsV S w' v xs := ⟨h.1.upd hu hT, h.2⟩
theorem ObjIs.upd {S T : Nat → Prop} {w w' : World} {o : Obj} {lv : Value} (h : ObjIs S w o lv) (hu : Upd T w w') (hT : ∀ b, S b → ¬ T b) : ObjIs S w' o lv := ⟨h.1.upd hu hT, h.2⟩
theorem StoreV.upd {S T : Nat → Prop} {w w' : World} {v : Value} {l : List Obj} (h : StoreV S w v l) (hu : Upd T w w') (hT : ∀ b, S b → ¬ T b) : StoreV S w' v l :=
 let ⟨lvs, h1, h2⟩ := h; ⟨lvs, h1.upd hu hT, fun i hi => (h2 i hi).upd hu hT⟩
theorem heap_new (w : World) (o : Go.Obj) (N : Nat) (h : N = w.heap.size) : (w.alloc o).heap[N]? = some o := by subst h; exact heap_alloc_new w o
def set4 (b : Nat) (v0 v1 v2 v3 : Value) (w : World) : World := (((w.setCell ⟨b, 0, none⟩ v0).setCell ⟨b, 1, none⟩ v1).setCell ⟨b, 2, none⟩ v2).setCell ⟨b, 3, none⟩ v3
theorem set4_is {b : Nat} {v0 v1 v2 v3 u0 u1 u2 u3 : Value} {t : TypeId} {w : World} (h0 : w.heap[b]? = some (.cells #[u0, u1, u2, u3] t (0, 0))) :
  (set4 b v0 v1 v2 v3 w).heap[b]? = some (.cells #[v0, v1, v2, v3] t (0, 0)) :=
 block_setCell (j := 3) (block_setCell (j := 2) (block_setCell (j := 1) (block_setCell (j := 0) h0 _) _) _) _
theorem set4_upd (b : Nat) (v0 v1 v2 v3 : Value) (w : World) : Upd (fun x => x = b) w (set4 b v0 v1 v2 v3 w) :=
 Upd.setCell (T := fun x => x = b) (Upd.setCell (T := fun x => x = b) (Upd.setCell (T := fun x => x = b) (Upd.setCell (T := fun x => x = b) (Upd.refl (fun x => x = b) w) (fun _ => rfl) v0) (fun _ => rfl) v1) (fun _ => rfl) v2) (fun _ => rfl) v3
def toldGood0 (b : Nat) (v0 v1 v2 v3 m : Value) (w : World) : World :=
 ((set4 b v0 v1 v2 v3 (set4 b v0 v1 v2 v3 w)).setCell ⟨b + 1, 0, none⟩ m).setCell ⟨b + 1 + 1, 0, none⟩ (.bool true)
def toldGood (b : Nat) (v0 v1 v2 v3 m : Value) (w : World) : World := (toldGood0 b v0 v1 v2 v3 m w).drew
theorem toldGood_is {b : Nat} {v0 v1 v2 v3 m u0 u1 u2 u3 n k : Value} {w : World} (h0 : w.heap[b]? = some (.cells #[u0, u1, u2, u3] 46 (0, 0))) (h1 : w.heap[b + 1]? = some (.cells #[n] 3 (0, 0)))
  (h2 : w.heap[b + 1 + 1]? = some (.cells #[k] 4 (0, 0))) :
  (toldGood b v0 v1 v2 v3 m w).heap[b]? = some (.cells #[v0, v1, v2, v3] 46 (0, 0)) ∧ (toldGood b v0 v1 v2 v3 m w).heap[b + 1]? = some (.cells #[m] 3 (0, 0)) ∧
   (toldGood b v0 v1 v2 v3 m w).heap[b + 1 + 1]? = some (.cells #[.bool true] 4 (0, 0)) ∧ Upd (fun x => x = b ∨ x = b + 1 ∨ x = b + 1 + 1) w (toldGood b v0 v1 v2 v3 m w) := by
 have s1 := set4_upd b v0 v1 v2 v3 w
 have s2 := set4_upd b v0 v1 v2 v3 (set4 b v0 v1 v2 v3 w)
 have s3 := s1.trans s2 (fun _ _ h => h)
 have u : Upd (fun x => x = b ∨ x = b + 1 ∨ x = b + 1 + 1) w (toldGood b v0 v1 v2 v3 m w) :=
  Upd.drew (Upd.setCell (Upd.setCell (s3.weaken (fun _ _ h => .inl h)) (fun _ => .inr (.inl rfl)) _) (fun _ => .inr (.inr rfl)) _)
 have q0 := set4_is (v0 := v0) (v1 := v1) (v2 := v2) (v3 := v3) h0
 have r0 := set4_is (v0 := v0) (v1 := v1) (v2 := v2) (v3 := v3) q0
 have q1 := s3.blk h1 (by omega)
 have q2 := s3.blk h2 (by omega)
 unfold toldGood toldGood0
 unfold toldGood toldGood0 at u
 generalize set4 b v0 v1 v2 v3 (set4 b v0 v1 v2 v3 w) = z at *
 have t1 := block_setCell (j := 0) q1 m
 have t2 := (Below.heap_setCell z ⟨b + 1, 0, none⟩ m (b + 1 + 1) (by simp)).trans q2
 have t0 := (Below.heap_setCell z ⟨b + 1, 0, none⟩ m b (by simp)).trans r0
 generalize z.setCell ⟨b + 1, 0, none⟩ m = y at *
 exact ⟨(Below.heap_setCell y ⟨b + 1 + 1, 0, none⟩ (.bool true) b (by simp; omega)).trans t0, (Below.heap_setCell y ⟨b + 1 + 1, 0, none⟩ (.bool true) (b + 1) (by simp)).trans t1, block_setCell (j := 0) t2 (.bool true), u⟩
theorem leaves_nil {P : Program} {fn : Func} {tmps : Array Value} {R : Ending → World → Prop} {w : World} (v : Value) (h1 : (results fn tmps).run P w = .ok v w) (h2 : R (.returned v) w) : Leaves P fn tmps R [] .returning w := ⟨v, h1, h2⟩
set_option maxRecDepth 100000 in
set_option maxHeartbeats 2000000 in
theorem told_any (s : ByteArray) (w : World) (hs : s.size ≤ 9223372036854775807) : Calls Tryz.prog 96 #[.string s] w (ToldIs s w) := by
 have hmf : ∀ (fn : Fn) (first cap : Array Value) (w : World), (Instr.makeFunc fn first cap).run Tryz.prog w = .ok (.func fn first cap) w := fun _ _ _ _ => rfl
 go_enter_defers Tryz.func96, Tryz.ntmps96
 go_wp2_with fail
 obtain ⟨w0, hw0⟩ : ∃ w0 : World, w0 = (((w.alloc (.cells #[.int .i64 0, .int .i64 0, .slice none 0 0, .string ⟨#[]⟩] 46)).alloc (.cells #[.int .i64 0] 3)).alloc (.cells #[.bool false] 4)).alloc (.cells #[.string s] 193) := ⟨_, rfl⟩
 have hz0 : w0.heap.size = w.heap.size + 4 := by rw [hw0]; simp
 have hb3 : w0.heap[w.heap.size + 1 + 1 + 1]? = some (.cells #[.string s] 193 (0, 0)) := by rw [hw0]; exact heap_new _ _ _ (by simp)
 have hb2 : w0.heap[w.heap.size + 1 + 1]? = some (.cells #[.bool false] 4 (0, 0)) := by
  rw [hw0, Below.heap_alloc _ _ _ (by simp)]; exact heap_new _ _ _ (by simp)
 have hb1 : w0.heap[w.heap.size + 1]? = some (.cells #[.int .i64 0] 3 (0, 0)) := by
  rw [hw0, Below.heap_alloc _ _ _ (by simp), Below.heap_alloc _ _ _ (by simp)]; exact heap_new _ _ _ (by simp)
 have hb0 : w0.heap[w.heap.size]? = some (.cells #[.int .i64 0, .int .i64 0, .slice none 0 0, .string ⟨#[]⟩] 46 (0, 0)) := by
  rw [hw0, Below.heap_alloc _ _ _ (by simp; omega), Below.heap_alloc _ _ _ (by simp; omega), Below.heap_alloc _ _ _ (by simp)]; exact heap_new _ _ _ rfl
 have hbw : Below w.heap.size w w0 := by
  rw [hw0]; exact ((((Below.refl _ _).alloc (Nat.le_refl _) _).alloc (by simp) _).alloc (by simp; omega) _).alloc (by simp; omega) _
 rw [← hw0]
 have Hw0 := Lib.hid hw0; clear hw0
 refine (object_any s (w.heap.size + 1 + 1 + 1) w0 hb3 hs).mono ?_
 rintro e w4 (⟨hok, lv, rfl, ho, h3, hu⟩ | ⟨hno, rfl, hu⟩)
 ·have hbw4 := hbw.trans (hu.below (B := w.heap.size) (by omega) (fun b hb => by omega))
  have k0 := hu.blk hb0 (by omega)
  have k1 := hu.blk hb1 (by omega)
  have k2 := hu.blk hb2 (by omega)
  have K0 := Lib.hid k0
  have K1 := Lib.hid k1
  have K2 := Lib.hid k2
  have c0 := block_cell (j := 0) k0 rfl
  have c1 := block_cell (j := 1) k0 rfl
  have c2 := block_cell (j := 2) k0 rfl
  have c3 := block_cell (j := 3) k0 rfl
  have f0 := block_free (j := 0) k0
  have f1 := block_free (j := 1) k0
  have f2 := block_free (j := 2) k0
  have f3 := block_free (j := 3) k0
  have c4 := block_cell (j := 0) k1 rfl
  have f4 := block_free (j := 0) k1
  have c5 := block_cell (j := 0) k2 rfl
  have f5 := block_free (j := 0) k2
  have c6 := block_cell (j := 0) h3 rfl
  have Hok := Lib.hid hok
  have Ho := Lib.hid ho
  have hrl : rawLen s ≤ s.size := by unfold rawLen; exact hok.2.2
  have hrs := rest_size hrl
  obtain ⟨q, hq⟩ := ho.1.shape
  subst hq
  clear hok ho hu k0 k1 k2 hb0 hb1 hb2 hb3 hz0 h3
  go_wp2
  go_region
  go_wp2
  refine leaves_cons (f := 155) (args := #[.pointer (some ⟨w.heap.size, 0, none⟩), .pointer (some ⟨w.heap.size + 1, 0, none⟩), .pointer (some ⟨w.heap.size + 1 + 1, 0, none⟩)]) (by simp) (by simp [go_sem]) ?_
  refine (told_idle _ _ _ _).mono ?_
  rintro e u' w5 ⟨rfl, rfl, rfl⟩
  obtain ⟨g0, g1, g2, gu⟩ := toldGood_is (v0 := .int .i64 (rawObj s).id) (v1 := .int .i64 (rawObj s).kind) (v2 := .slice q.1 (rawObj s).links.length q.2) (v3 := .string (rawObj s).text) (m := .int .i64 ((s.size : Int) - (s.size - rawLen s : Nat))) K0.out K1.out K2.out
  refine leaves_nil (w := (toldGood w.heap.size (.int .i64 (rawObj s).id) (.int .i64 (rawObj s).kind) (.slice q.1 (rawObj s).links.length q.2) (.string (rawObj s).text) (.int .i64 ((s.size : Int) - (s.size - rawLen s : Nat))) w4)) (.tuple #[.agg #[.int .i64 (rawObj s).id, .int .i64 (rawObj s).kind, .slice q.1 (rawObj s).links.length q.2, .string (rawObj s).text], .int .i64 ((s.size : Int) - (s.size - rawLen s : Nat)), .bool true]) ?_ ?_
  ·have e0 := block_cell (j := 0) g0 rfl
   have e1 := block_cell (j := 1) g0 rfl
   have e2 := block_cell (j := 2) g0 rfl
   have e3 := block_cell (j := 3) g0 rfl
   have e4 := block_cell (j := 0) g1 rfl
   have e5 := block_cell (j := 0) g2 rfl
   clear gu g0 g1 g2 c0 c1 c2 c3 c4 c5 c6 f0 f1 f2 f3 f4 f5
   generalize toldGood w.heap.size (.int .i64 (rawObj s).id) (.int .i64 (rawObj s).kind) (.slice q.1 (rawObj s).links.length q.2) (.string (rawObj s).text) (.int .i64 ((s.size : Int) - (s.size - rawLen s : Nat))) w4 = wf at *
   simp [results, Tryz.results96, go_sem, *]
  ·have hz := hbw4.size
   have hob := Ho.out
   unfold ToldIs
   refine ⟨.inl ⟨Hok.out, .slice q.1 (rawObj s).links.length q.2, ?_, ?_⟩, ?_⟩
   ·rw [show (s.size : Int) - (s.size - rawLen s : Nat) = (rawLen s : Int) from by omega]
   ·have hz0 : w0.heap.size = w.heap.size + 4 := by rw [Hw0.out]; simp
    exact (hob.upd gu (fun b hb h => by omega)).weaken (fun b hb => by omega)
   ·exact hbw4.trans (gu.below (B := w.heap.size) (by omega) (fun b hb => by omega))
 ·refine leaves_cons (f := 155) (args := #[.pointer (some ⟨w.heap.size, 0, none⟩), .pointer (some ⟨w.heap.size + 1, 0, none⟩), .pointer (some ⟨w.heap.size + 1 + 1, 0, none⟩)]) (by simp) (by simp [go_sem]) ?_
  refine (told_caught _ _ _ _ _ _ _ _ _ _ (hu.blk hb0 (by omega)) (hu.blk hb1 (by omega)) (hu.blk hb2 (by omega)) (by omega) (by omega)).mono ?_
  rintro e u' w5 ⟨rfl, rfl, k0, k1, k2, hu5⟩
  have Hu5 := Lib.hid hu5; clear hu5
  have e0 := block_cell (j := 0) k0 rfl
  have e1 := block_cell (j := 1) k0 rfl
  have e2 := block_cell (j := 2) k0 rfl
  have e3 := block_cell (j := 3) k0 rfl
  have e4 := block_cell (j := 0) k1 rfl
  have e5 := block_cell (j := 0) k2 rfl
  simp [Leaves, settle, results, Tryz.results96, go_sem, *]
  unfold ToldIs
  refine ⟨.inr ⟨hno, rfl⟩, ?_⟩
  have h4 := hu.below (B := w.heap.size) (by omega) (fun b hb => by omega)
  have h5 := Hu5.out.below (B := w.heap.size) (by have := h4.size; omega) (fun b hb => by omega)
  exact (hbw.trans h4).trans h5
end Go.Proofs.YtjdgpgfiomnjkaaGreatDoor
namespace Go.Proofs.YtjdgpgfiomnjkaaGreatDoor
open Go.RowKit
set_option linter.unusedVariables false
set_option linter.unusedSimpArgs false
set_option linter.unusedSectionVars false
variable [Ghost]
instance (s : ByteArray) : Decidable (rawOk s) := by unfold rawOk; infer_instance
def decE (s : ByteArray) : Int := if rawOk s then checkObj (rawObj s) else 5
def decO (s : ByteArray) : Obj := if decE s = 0 then rawObj s else obj0
def decN (s : ByteArray) : Int := if decE s = 0 then (rawLen s : Int) else 0
def DecIs (s : ByteArray) (w : World) (e : Ending) (w' : World) : Prop :=
 (∃ lv, e = .returned (.tuple #[.agg #[.int .i64 (decO s).id, .int .i64 (decO s).kind, lv, .string (decO s).text], .int .i64 (decN s), .int .i64 (decE s)]) ∧ ObjIs (fun b => w.heap.size ≤ b) w' (decO s) lv) ∧ Below w.heap.size w w'
theorem obj0_is (S : Nat → Prop) (w : World) : ObjIs S w obj0 (.slice none 0 0) :=
 ⟨IntsV.nil _ _ _ _ (by omega), by unfold I64 obj0; decide, by unfold I64 obj0; decide, by decide⟩
theorem cls_var4 (w : World) (v0 v1 v2 v3 : Value) (t : TypeId) : ∃ R : World → Prop, Cls w R ∧ In R (w.alloc (.cells #[v0, v1, v2, v3] t)) ∧
  (∀ x, In R x → x.cell? ⟨w.heap.size, 0, none⟩ = some v0) ∧ (∀ x, In R x → x.cell? ⟨w.heap.size, 1, none⟩ = some v1) ∧
  (∀ x, In R x → x.cell? ⟨w.heap.size, 2, none⟩ = some v2) ∧ (∀ x, In R x → x.cell? ⟨w.heap.size, 3, none⟩ = some v3) ∧
  (∀ x j, In R x → x.frozen? ⟨w.heap.size, j, none⟩ = false) ∧ (∀ x, In R x → x.heap[w.heap.size]? = some (.cells #[v0, v1, v2, v3] t (0, 0))) := by
 have hb : ∀ x, In (fun x => Below (w.heap.size + 1) (w.alloc (.cells #[v0, v1, v2, v3] t)) x) x → x.heap[w.heap.size]? = some (.cells #[v0, v1, v2, v3] t (0, 0)) := fun x hx => by
  rw [Below.block hx w.heap.size (by omega)]; exact heap_alloc_new w _
 exact ⟨_, cls_of w _ (w.heap.size + 1) (by omega) (by simp) ((Below.refl _ _).alloc (Nat.le_refl _) _), Below.refl _ _,
  fun x hx => block_cell (hb x hx) rfl, fun x hx => block_cell (hb x hx) rfl, fun x hx => block_cell (hb x hx) rfl, fun x hx => block_cell (hb x hx) rfl, fun x j hx => block_free (hb x hx), hb⟩
set_option maxRecDepth 100000 in
set_option maxHeartbeats 2000000 in
theorem decode_any (s : ByteArray) (w : World) (hs : s.size ≤ 9223372036854775807) : Calls Tryz.prog 30 #[.string s] w (DecIs s w) := by
 obtain ⟨R, hR, hR1, hx0, hx1, hx2, hx3, hxf, hxb⟩ := cls_var4 w (.int .i64 0) (.int .i64 0) (.slice none 0 0) (.string ⟨#[]⟩) 46
 have hRn := hR.next
 have hRb := hR.below
 have hRa := hR.alloc
 go_enter Tryz.func30, Tryz.ntmps30
 go_wp2_with fail
 refine (told_any s _ hs).mono ?_
 rintro e w1 ⟨⟨hok, lv, rfl, ho⟩ | ⟨hno, rfl⟩, hb1⟩
 ·have hR2 := hRn _ _ hR1 hb1
  have hsz := (hRb _ hR2).size
  obtain ⟨q, hq⟩ := ho.1.shape
  subst hq
  have Ho := Lib.hid (ho.below ((Below.refl _ _).alloc (Nat.le_refl _) (.cells #[.int .i64 (rawObj s).id, .int .i64 (rawObj s).kind, .slice q.1 (rawObj s).links.length q.2, .string (rawObj s).text] 46)))
  have Hok := Lib.hid hok
  clear hb1 ho hok hR1
  go_wp2_with fail
  refine (check_any (rawObj s) _ _ _ Ho.out).mono ?_
  rintro e w2 ⟨rfl, hb2⟩
  have hR3 := hRn _ _ (hRa _ _ hR2) hb2
  obtain ⟨R', hR', hR1', y0, y1, y2, y3⟩ := cls_box4 w1 (.int .i64 (rawObj s).id) (.int .i64 (rawObj s).kind) (.slice q.1 (rawObj s).links.length q.2) (.string (rawObj s).text) 46
  have hR2' := hR'.next _ _ hR1' hb2
  have y0 := y0 _ hR2'
  have y1 := y1 _ hR2'
  have y2 := y2 _ hR2'
  have y3 := y3 _ hR2'
  clear hR2' hR1' hR'
  have Hb2 := Lib.hid hb2; clear hb2
  have Ho2 := Lib.hid (Ho.out.below Hb2.out)
  by_cases hz : checkObj (rawObj s) = 0
  ·have hz' : (checkObj (rawObj s) != 0) = false := by simpa using hz
   have Hd := Lib.hid (show decE s = 0 by unfold decE; rw [if_pos Hok.out]; exact hz)
   have Hz := Lib.hid hz; clear hz
   go_wp2
   have hs4 := set4_is (v0 := .int .i64 (rawObj s).id) (v1 := .int .i64 (rawObj s).kind) (v2 := .slice q.1 (rawObj s).links.length q.2) (v3 := .string (rawObj s).text) (hxb _ hR3)
   have hu4 := set4_upd w.heap.size (.int .i64 (rawObj s).id) (.int .i64 (rawObj s).kind) (.slice q.1 (rawObj s).links.length q.2) (.string (rawObj s).text) w2
   refine bodyPost_ret (w := set4 w.heap.size (.int .i64 (rawObj s).id) (.int .i64 (rawObj s).kind) (.slice q.1 (rawObj s).links.length q.2) (.string (rawObj s).text) w2) (v := .tuple #[.agg #[.int .i64 (rawObj s).id, .int .i64 (rawObj s).kind, .slice q.1 (rawObj s).links.length q.2, .string (rawObj s).text], .int .i64 (rawLen s), .int .i64 0]) ?_ rfl ?_
   ·have e0 := block_cell (j := 0) hs4 rfl
    have e1 := block_cell (j := 1) hs4 rfl
    have e2 := block_cell (j := 2) hs4 rfl
    have e3 := block_cell (j := 3) hs4 rfl
    clear hs4 hu4
    generalize set4 w.heap.size (.int .i64 (rawObj s).id) (.int .i64 (rawObj s).kind) (.slice q.1 (rawObj s).links.length q.2) (.string (rawObj s).text) w2 = wf at *
    simp [results, Tryz.results30, go_sem, *]
   ·have ho : decO s = rawObj s := by unfold decO; rw [Hd.out]; rfl
    have hn : decN s = rawLen s := by unfold decN; rw [Hd.out]; rfl
    unfold DecIs
    rw [ho, hn, Hd.out]
    exact ⟨⟨_, rfl, (Ho2.out.upd hu4 (fun b hb h => by simp at hb; omega)).weaken (fun b hb => by simp at hb; omega)⟩, (hRb _ hR3).trans (hu4.below (by have := (hRb _ hR3).size; omega) (fun b hb => by omega))⟩
  ·have hz' : (checkObj (rawObj s) != 0) = true := by simpa using hz
   have Hd := Lib.hid (show decE s = checkObj (rawObj s) by unfold decE; rw [if_pos Hok.out])
   have Hz := Lib.hid hz; clear hz
   go_wp2
   have hs4 := set4_is (v0 := .int .i64 0) (v1 := .int .i64 0) (v2 := .slice none 0 0) (v3 := .string ⟨#[]⟩) (hxb _ hR3)
   have hu4 := set4_upd w.heap.size (.int .i64 0) (.int .i64 0) (.slice none 0 0) (.string ⟨#[]⟩) w2
   refine bodyPost_ret (w := set4 w.heap.size (.int .i64 0) (.int .i64 0) (.slice none 0 0) (.string ⟨#[]⟩) w2) (v := .tuple #[.agg #[.int .i64 0, .int .i64 0, .slice none 0 0, .string ⟨#[]⟩], .int .i64 0, .int .i64 (checkObj (rawObj s))]) ?_ rfl ?_
   ·have e0 := block_cell (j := 0) hs4 rfl
    have e1 := block_cell (j := 1) hs4 rfl
    have e2 := block_cell (j := 2) hs4 rfl
    have e3 := block_cell (j := 3) hs4 rfl
    clear hs4 hu4
    generalize set4 w.heap.size (.int .i64 0) (.int .i64 0) (.slice none 0 0) (.string ⟨#[]⟩) w2 = wf at *
    simp [results, Tryz.results30, go_sem, *]
   ·have ho : decO s = obj0 := by unfold decO; rw [Hd.out, if_neg Hz.out]
    have hn : decN s = 0 := by unfold decN; rw [Hd.out, if_neg Hz.out]
    unfold DecIs
    rw [ho, hn, Hd.out]
    exact ⟨⟨_, rfl, obj0_is _ _⟩, (hRb _ hR3).trans (hu4.below (by have := (hRb _ hR3).size; omega) (fun b hb => by omega))⟩
 ·have hR2 := hRn _ _ hR1 hb1
  have hsz := (hRb _ hR2).size
  have Hd := Lib.hid (show decE s = 5 by unfold decE; rw [if_neg hno])
  clear hb1 hno hR1
  have hq := hxb _ (hRa _ (.cells #[.int .i64 0, .int .i64 0, .slice none 0 0, .string ⟨#[]⟩] 46) hR2)
  go_wp2
  have hs4 := set4_is (v0 := .int .i64 0) (v1 := .int .i64 0) (v2 := .slice none 0 0) (v3 := .string ⟨#[]⟩) hq
  have hu4 := set4_upd w.heap.size (.int .i64 0) (.int .i64 0) (.slice none 0 0) (.string ⟨#[]⟩) (w1.alloc (.cells #[.int .i64 0, .int .i64 0, .slice none 0 0, .string ⟨#[]⟩] 46))
  refine bodyPost_ret (w := set4 w.heap.size (.int .i64 0) (.int .i64 0) (.slice none 0 0) (.string ⟨#[]⟩) (w1.alloc (.cells #[.int .i64 0, .int .i64 0, .slice none 0 0, .string ⟨#[]⟩] 46)))
   (v := .tuple #[.agg #[.int .i64 0, .int .i64 0, .slice none 0 0, .string ⟨#[]⟩], .int .i64 0, .int .i64 5]) ?_ rfl ?_
  ·have e0 := block_cell (j := 0) hs4 rfl
   have e1 := block_cell (j := 1) hs4 rfl
   have e2 := block_cell (j := 2) hs4 rfl
   have e3 := block_cell (j := 3) hs4 rfl
   clear hs4 hu4 hq
   generalize set4 w.heap.size (.int .i64 0) (.int .i64 0) (.slice none 0 0) (.string ⟨#[]⟩) (w1.alloc (.cells #[.int .i64 0, .int .i64 0, .slice none 0 0, .string ⟨#[]⟩] 46)) = wf at *
   simp [results, Tryz.results30, go_sem, *]
  ·have ho : decO s = obj0 := by unfold decO; rw [Hd.out]; rfl
   have hn : decN s = 0 := by unfold decN; rw [Hd.out]; rfl
   unfold DecIs
   rw [ho, hn, Hd.out]
   exact ⟨⟨_, rfl, obj0_is _ _⟩, (hRb _ (hRa _ _ hR2)).trans (hu4.below (by simp; omega) (fun b hb => by omega))⟩
end Go.Proofs.YtjdgpgfiomnjkaaGreatDoor
namespace Go.Proofs.YtjdgpgfiomnjkaaGreatDoor
open Go.RowKit
set_option linter.unusedVariables false
set_option linter.unusedSimpArgs false
set_option linter.unusedSectionVars false
variable [Ghost]
def o5 : Obj := ⟨5, 3, [4, 3], tee⟩
def o31 : Obj := ⟨3, 1, [1], tee⟩
def s5 : ByteArray := ⟨#[5, 3, 2, 4, 3, 1, 116]⟩
def s5z : ByteArray := ⟨#[5, 3, 2, 4, 3, 1, 116, 122]⟩
def s3 : ByteArray := ⟨#[5, 3, 2]⟩
theorem begun_check : checkObj o5 = 0 := by decide +kernel
theorem begun_form : checkObj o31 = 1 := by decide +kernel
theorem begun_enc : encE o5 = s5 := by
 unfold encE; rw [begun_check, if_pos rfl]; rfl
theorem begun_raw : rawOk s5z := by decide +kernel
theorem begun_obj : rawObj s5z = o5 := by rfl
theorem begun_decE : decE s5z = 0 := by unfold decE; rw [if_pos begun_raw, begun_obj, begun_check]
theorem begun_decO : decO s5z = o5 := by unfold decO; rw [begun_decE, if_pos rfl, begun_obj]
theorem begun_decN : decN s5z = 7 := by unfold decN; rw [begun_decE, if_pos rfl]; rfl
theorem begun_none : decE s3 = 5 := by unfold decE; rw [if_neg (by decide +kernel)]
theorem shelf_five {S : Nat → Prop} {w : World} {v : Value} (h : StoreV S w v shelfL) : ∃ b off cap a2 c2, v = .slice (some ⟨b, off, none⟩) 5 cap ∧ 5 ≤ cap ∧
  (∀ x, Below w.heap.size w x → x.cell? ⟨b, off + 16, none⟩ = some (.int .i64 5)) ∧ (∀ x, Below w.heap.size w x → x.cell? ⟨b, off + 17, none⟩ = some (.int .i64 3)) ∧
  (∀ x, Below w.heap.size w x → x.cell? ⟨b, off + 18, none⟩ = some (.slice a2 2 c2)) ∧ (∀ x, Below w.heap.size w x → x.cell? ⟨b, off + 19, none⟩ = some (.string tee)) ∧ ObjIs S w o5 (.slice a2 2 c2) := by
 obtain ⟨a, n, cap, la, ln, lc, HN, rfl, h1, h2, h3, h4, h5⟩ := h.open
 have hn : n = 5 := HN.out.1
 subst hn
 obtain ⟨b, off, rfl, _, k0, k1, k2, k3⟩ := h4 (by omega)
 have hl : ln 4 = 2 := HN.out.2 4
 refine ⟨b, off, cap, la 4, lc 4, rfl, h1, fun x hx => k0 4 x (by omega) hx, fun x hx => k1 4 x (by omega) hx, fun x hx => ?_, fun x hx => k3 4 x (by omega) hx, ?_⟩
 ·have := k2 4 x (by omega) hx; rw [hl] at this; exact this
 ·have := h5 4 (by omega); rw [hl] at this; exact this
theorem begun_same : sameObj o5 o5 = true := (sameObj_iff _ _).2 rfl
theorem begun_zero : decO s3 = obj0 := by unfold decO; rw [begun_none]; rfl
theorem o31_is {x wb : World} {t : TypeId} (h : Below (x.alloc (.cells #[.int .i64 1] t)).heap.size (x.alloc (.cells #[.int .i64 1] t)) wb) : ObjIs (fun _ => True) wb o31 (.slice (some ⟨x.heap.size, 0, none⟩) 1 1) := by
 have hi := ints_new x [1] t _ rfl (by simp) (by intro y hy; simp only [List.mem_cons, List.not_mem_nil, or_false] at hy; subst hy; exact small64 _ (by omega))
 exact ⟨(hi.below h).weaken fun _ _ => trivial, small64 _ (by decide), small64 _ (by decide), by decide⟩
set_option maxRecDepth 100000 in
set_option maxHeartbeats 4000000 in
theorem objectBegun_any (w : World) : Calls Tryz.prog 13 #[] w fun e w' => e = .returned (.bool true) ∧ Below w.heap.size w w' := by
 obtain ⟨R, hR, hR1, hRall⟩ := cls_plain w
 have hRb := hR.below
 have hRn := hR.next
 have hRa := hR.alloc
 go_enter Tryz.func13, Tryz.ntmps13
 go_wp2_with fail
 refine (shelf_any _).mono ?_
 rintro e w1 ⟨v1, rfl, hv1, hb1⟩
 have hR2 := hRn _ _ hR1 hb1
 obtain ⟨b, off, cap, a2, c2, rfl, hcap, k0, k1, k2, k3, ho5⟩ := shelf_five hv1
 have k0 := k0 w1 (Below.refl _ _)
 have k1 := k1 w1 (Below.refl _ _)
 have k2 := k2 w1 (Below.refl _ _)
 have k3 := k3 w1 (Below.refl _ _)
 go_wp2_with fail
 have hE := encode_any o5 _ _ _ ho5
 rw [begun_enc, begun_check] at hE
 refine hE.mono ?_
 rintro e w2 ⟨rfl, hb2⟩
 have hR3 := hRn _ _ hR2 hb2
 clear k0 k1 k2 k3 hE ho5 hb1 hb2 hv1 hR2
 unfold s5
 go_wp2_with fail
 have hD := decode_any s5z w2 (by decide)
 unfold DecIs at hD
 rw [begun_decO, begun_decN, begun_decE] at hD
 refine hD.mono ?_
 rintro e w3 ⟨⟨lv, rfl, ho⟩, hb3⟩
 have hR4 := hRn _ _ hR3 hb3
 obtain ⟨q, hq⟩ := ho.1.shape
 subst hq
 clear hD
 go_wp2_with fail
 obtain ⟨Q, hQ, hQ1, x0, x1, x2, x3⟩ := cls_box4 w3 (.int .i64 o5.id) (.int .i64 o5.kind) (.slice q.1 o5.links.length q.2) (.string o5.text) 46
 have hQb := hQ.below
 have hQn := hQ.next
 have hQa := hQ.alloc
 have hQd := hQ.drew
 have hD := decode_any s3 (w3.alloc (.cells #[.int .i64 o5.id, .int .i64 o5.kind, .slice q.1 o5.links.length q.2, .string o5.text] 46)) (by decide)
 unfold DecIs at hD
 rw [begun_none, begun_zero] at hD
 refine hD.mono ?_
 rintro e w4 ⟨⟨lv', rfl, ho'⟩, hb4⟩
 obtain ⟨q', hq'⟩ := ho'.1.shape
 subst hq'
 have hQ2 := hQn _ _ hQ1 hb4
 have hF := Lib.hid (below_next (hRb _ hR4) (hQb _ hQ2))
 have hfin : ∀ x, In Q x → Below w.heap.size w x := fun x hx => below_next (hRb _ hR4) (hQb _ hx)
 have Hfin := Lib.hid hfin
 have Ho := Lib.hid ho
 clear hfin hD ho ho' hb4 hQ1 hb3 hR1 hRall hRb hRn hRa hR3 hR4 k0 k1 k2 k3
 have hbc := begun_check
 have hbf := begun_form
 have hbs := begun_same
 go_wp2_with fail
 have hQ3 := hQa _ (.cells #[.int .i64 obj0.id, .int .i64 obj0.kind, .slice q'.1 obj0.links.length q'.2, .string obj0.text] 46) hQ2
 refine any_start (by kernel_rfl) rfl ?_
 refine any_one 0 (by kernel_rfl) rfl (by rfl) (fun K hK => ?_)
 go_wp2_with fail
 refine (shelf_any _).mono ?_
 rintro e wa8 ⟨va, rfl, hva, hba⟩
 have hQ8 := hQn _ _ (hQd _ hQ3) hba
 obtain ⟨b8, off8, cap8, a8, c8, rfl, hcap8, k0, k1, k2, k3, ho8⟩ := shelf_five hva
 have z08 := k0 wa8 (Below.refl _ _)
 have z18 := k1 wa8 (Below.refl _ _)
 have z28 := k2 wa8 (Below.refl _ _)
 have z38 := k3 wa8 (Below.refl _ _)
 clear k0 k1 k2 k3 hva hba
 go_wp2_with fail
 refine any_one 1 (by kernel_rfl) rfl (by rfl) (fun K hK => ?_)
 go_wp2_with fail
 refine any_one 2 (by kernel_rfl) rfl (by rfl) (fun K hK => ?_)
 go_wp2_with fail
 refine any_one 3 (by kernel_rfl) rfl (by rfl) (fun K hK => ?_)
 go_wp2_with fail
 refine (check_any o5 _ _ _ ho8).mono ?_
 rintro e wb ⟨rfl, hbb⟩
 have hQ9 := hQn _ _ hQ8 hbb
 clear hbb z08 z18 z28 z38 ho8 hQ8
 go_wp2_with fail
 refine any_one 4 (by kernel_rfl) rfl (by rfl) (fun K hK => ?_)
 go_wp2_with fail
 refine any_one 5 (by kernel_rfl) rfl (by rfl) (fun K hK => ?_)
 go_wp2_with fail
 refine any_one 6 (by kernel_rfl) rfl (by rfl) (fun K hK => ?_)
 go_wp2_with fail
 refine any_one 7 (by kernel_rfl) rfl (by rfl) (fun K hK => ?_)
 go_wp2_with fail
 refine (obj_any _ _ _ _ _ _).mono ?_
 rintro e wc ⟨rfl, hbb⟩
 have hQ10 := hQn _ _ (hQa _ _ hQ9) hbb
 have h31 := o31_is hbb
 clear hbb hQ9
 go_wp2_with fail
 refine any_one 8 (by kernel_rfl) rfl (by rfl) (fun K hK => ?_)
 go_wp2_with fail
 refine (check_any o31 _ _ _ h31).mono ?_
 rintro e wd ⟨rfl, hbb⟩
 have hQ11 := hQn _ _ hQ10 hbb
 clear hbb hQ10 h31
 go_wp2_with fail
 refine any_one 9 (by kernel_rfl) rfl (by rfl) (fun K hK => ?_)
 go_wp2_with fail
 refine any_one 10 (by kernel_rfl) rfl (by rfl) (fun K hK => ?_)
 go_wp2_with fail
 refine any_one 11 (by kernel_rfl) rfl (by rfl) (fun K hK => ?_)
 go_wp2_with fail
 refine any_one 12 (by kernel_rfl) rfl (by rfl) (fun K hK => ?_)
 go_wp2_with fail
 refine any_one 13 (by kernel_rfl) rfl (by rfl) (fun K hK => ?_)
 go_wp2_with fail
 refine any_one 14 (by kernel_rfl) rfl (by rfl) (fun K hK => ?_)
 go_wp2_with fail
 refine any_one 15 (by kernel_rfl) rfl (by rfl) (fun K hK => ?_)
 go_wp2_with fail
 refine any_one 16 (by kernel_rfl) rfl (by rfl) (fun K hK => ?_)
 go_wp2_with fail
 refine any_one 17 (by kernel_rfl) rfl (by rfl) (fun K hK => ?_)
 go_wp2_with fail
 refine any_one 18 (by kernel_rfl) rfl (by rfl) (fun K hK => ?_)
 go_wp2_with fail
 refine any_one 19 (by kernel_rfl) rfl (by rfl) (fun K hK => ?_)
 go_wp2_with fail
 refine any_one 20 (by kernel_rfl) rfl (by rfl) (fun K hK => ?_)
 go_wp2_with fail
 refine any_one 21 (by kernel_rfl) rfl (by rfl) (fun K hK => ?_)
 go_wp2_with fail
 refine any_one 22 (by kernel_rfl) rfl (by rfl) (fun K hK => ?_)
 go_wp2_with fail
 refine any_one 23 (by kernel_rfl) rfl (by rfl) (fun K hK => ?_)
 go_wp2_with fail
 refine any_take 24 (.int .i64 7) rfl (by kernel_rfl) (by kernel_rfl) (by kernel_rfl) (fun _ _ _ h => h) (by rfl) (fun w => by rfl) ?_
 simp only [Act.put, List.setIfInBounds_toArray, List.set_cons_zero, List.set_cons_succ]
 refine any_one 25 (by kernel_rfl) rfl (by rfl) (fun K hK => ?_)
 go_wp2_with fail
 refine any_one 26 (by kernel_rfl) rfl (by rfl) (fun K hK => ?_)
 go_wp2_with fail
 refine any_one 27 (by kernel_rfl) rfl (by rfl) (fun K hK => ?_)
 go_wp2_with fail
 refine any_one 28 (by kernel_rfl) rfl (by rfl) (fun K hK => ?_)
 go_wp2_with fail
 refine any_one 29 (by kernel_rfl) rfl (by rfl) (fun K hK => ?_)
 go_wp2_with fail
 refine any_one 30 (by kernel_rfl) rfl (by rfl) (fun K hK => ?_)
 go_wp2_with fail
 refine any_one 31 (by kernel_rfl) rfl (by rfl) (fun K hK => ?_)
 go_wp2_with fail
 refine any_one 32 (by kernel_rfl) rfl (by rfl) (fun K hK => ?_)
 go_wp2_with fail
 refine any_one 33 (by kernel_rfl) rfl (by rfl) (fun K hK => ?_)
 go_wp2_with fail
 refine any_two 34 35 (by kernel_rfl) ?_ ?_
 ·refine op_do rfl (by rfl) (fun K hK => ?_)
  go_wp2_with fail
  refine any_one 35 (by kernel_rfl) rfl (by rfl) (fun K hK => ?_)
  go_wp2_with fail
  refine (shelf_any _).mono ?_
  rintro e wa12 ⟨va, rfl, hva, hba⟩
  have hQ12 := hQn _ _ hQ11 hba
  obtain ⟨b12, off12, cap12, a12, c12, rfl, hcap12, k0, k1, k2, k3, ho12⟩ := shelf_five hva
  have z012 := k0 wa12 (Below.refl _ _)
  have z112 := k1 wa12 (Below.refl _ _)
  have z212 := k2 wa12 (Below.refl _ _)
  have z312 := k3 wa12 (Below.refl _ _)
  clear k0 k1 k2 k3 hva hba
  go_wp2_with fail
  refine any_one 36 (by kernel_rfl) rfl (by rfl) (fun K hK => ?_)
  go_wp2_with fail
  refine any_one 37 (by kernel_rfl) rfl (by rfl) (fun K hK => ?_)
  go_wp2_with fail
  refine any_one 38 (by kernel_rfl) rfl (by rfl) (fun K hK => ?_)
  go_wp2_with fail
  refine (sameObject_any o5 o5 _ _ _ _ _ (Ho.out.below (hQb _ hQ12)) ho12).mono ?_
  rintro e we ⟨rfl, hbb⟩
  have hQz := hQn _ _ hQ12 hbb
  clear hbb
  go_wp2_with fail
  refine any_one 39 (by kernel_rfl) rfl (by rfl) (fun K hK => ?_)
  go_wp2_with fail
  refine any_one 40 (by kernel_rfl) rfl (by rfl) (fun K hK => ?_)
  go_wp2_with fail
  refine any_done (by kernel_rfl) ?_
  go_wp2
  go_ret
  exact ⟨rfl, Hfin.out _ hQz⟩
 ·refine op_do rfl (by rfl) (fun K hK => ?_)
  go_wp2_with fail
  refine (shelf_any _).mono ?_
  rintro e wa13 ⟨va, rfl, hva, hba⟩
  have hQ13 := hQn _ _ hQ11 hba
  obtain ⟨b13, off13, cap13, a13, c13, rfl, hcap13, k0, k1, k2, k3, ho13⟩ := shelf_five hva
  have z013 := k0 wa13 (Below.refl _ _)
  have z113 := k1 wa13 (Below.refl _ _)
  have z213 := k2 wa13 (Below.refl _ _)
  have z313 := k3 wa13 (Below.refl _ _)
  clear k0 k1 k2 k3 hva hba
  go_wp2_with fail
  refine any_take 36 (.pointer (some ⟨b13, off13 + 16, none⟩)) rfl (by kernel_rfl) (by kernel_rfl) (by kernel_rfl) (fun _ _ _ h => h) (by rfl) (fun w => ?_) ?_
  ·go_simp
  simp only [Act.put, List.setIfInBounds_toArray, List.set_cons_zero, List.set_cons_succ]
  refine any_two 34 37 (by kernel_rfl) ?_ ?_
  ·refine op_do rfl (by rfl) (fun K hK => ?_)
   go_wp2_with fail
   refine any_one 37 (by kernel_rfl) rfl (by rfl) (fun K hK => ?_)
   go_wp2_with fail
   refine any_one 38 (by kernel_rfl) rfl (by rfl) (fun K hK => ?_)
   go_wp2_with fail
   refine (sameObject_any o5 o5 _ _ _ _ _ (Ho.out.below (hQb _ hQ13)) ho13).mono ?_
   rintro e we ⟨rfl, hbb⟩
   have hQz := hQn _ _ hQ13 hbb
   clear hbb
   go_wp2_with fail
   refine any_one 39 (by kernel_rfl) rfl (by rfl) (fun K hK => ?_)
   go_wp2_with fail
   refine any_one 40 (by kernel_rfl) rfl (by rfl) (fun K hK => ?_)
   go_wp2_with fail
   refine any_done (by kernel_rfl) ?_
   go_wp2
   go_ret
   exact ⟨rfl, Hfin.out _ hQz⟩
  ·refine op_do rfl (by rfl) (fun K hK => ?_)
   go_wp2_with fail
   refine any_one 34 (by kernel_rfl) rfl (by rfl) (fun K hK => ?_)
   go_wp2_with fail
   refine any_one 38 (by kernel_rfl) rfl (by rfl) (fun K hK => ?_)
   go_wp2_with fail
   refine (sameObject_any o5 o5 _ _ _ _ _ (Ho.out.below (hQb _ hQ13)) ho13).mono ?_
   rintro e we ⟨rfl, hbb⟩
   have hQz := hQn _ _ hQ13 hbb
   clear hbb
   go_wp2_with fail
   refine any_one 39 (by kernel_rfl) rfl (by rfl) (fun K hK => ?_)
   go_wp2_with fail
   refine any_one 40 (by kernel_rfl) rfl (by rfl) (fun K hK => ?_)
   go_wp2_with fail
   refine any_done (by kernel_rfl) ?_
   go_wp2
   go_ret
   exact ⟨rfl, Hfin.out _ hQz⟩
end Go.Proofs.YtjdgpgfiomnjkaaGreatDoor
namespace Go.Proofs.YtjdgpgfiomnjkaaGreatDoor
open Go.RowKit
set_option linter.unusedVariables false
set_option linter.unusedSimpArgs false
set_option linter.unusedSectionVars false
variable [Ghost]
theorem wp_append_run {P : Program} {o : Oper} {a : Act} {w w' : World} {K : Act → World → Prop} {Q : Exit → Act → World → Prop} (s x : Operand) (t : TypeId)
  (ho : o.op = .call { callee := .builtin .append, args := #[s, x], argTypes := #[t, t] }) (v u r : Value) (hs : a.eval s = v) (hx : a.eval x = u)
  (hr : (Builtin.append_ #[t, t] o.type #[v, u]).run P w = .ok r w') (h : K (a.put o.dst r) w') : o.wp P a w K Q := by
 unfold Oper.wp execOp
 simp only [ho, resolve, invoke, builtin, Sem.run_bind, Sem.run_pure, Result.andThen_ok, List.map_toArray, List.map_cons, List.map_nil, hs, hx, hr]
 exact h
theorem own_empty (x : World) (t : TypeId) (B : Nat) (hB : B ≤ x.heap.size) : (x.alloc (.cells #[] t)).ownsRow B t 1 (.slice (some ⟨x.heap.size, 0, none⟩) 0 0) 0 (([] : List Int).map (Value.int .i64)) :=
 ⟨rfl, .inr ⟨x.heap.size, 0, #[], rfl, hB, heap_alloc_new x _, Nat.le_refl _, by unfold maxLen; omega, rfl, rfl⟩⟩
structure Lk (R : World → Prop) (g0 : Nat) (mc : Array Value) (t0 : TypeId) (B : Nat) (x : World) : Prop where
 cls : In R x
 more : x.heap[g0]? = some (.cells mc t0 (0, 0))
 size : B ≤ x.heap.size
section
variable {R : World → Prop} {g0 B : Nat} {mc : Array Value} {t0 : TypeId} {x y : World}
theorem Lk.alloc (h : Lk R g0 mc t0 B x) (hRa : ∀ x o, In R x → In R (x.alloc o)) (o : Go.Obj) : Lk R g0 mc t0 B (x.alloc o) :=
 ⟨hRa _ _ h.cls, (Below.heap_alloc _ _ _ (lt_of_block h.more)).trans h.more, by have := h.size; simp; omega⟩
theorem Lk.grown {N : Nat} (h : Lk R g0 mc t0 B x) (hRg : ∀ (x y : World) (row : Option Nat), In R x → x.grownBy y row → (∀ k, row = some k → N ≤ k) → In R y) {g : Nat} (hg : x.grownBy y (some g)) (hN : N ≤ g) (hB : g0 < B) (hb : B ≤ g) : Lk R g0 mc t0 B y :=
 ⟨hRg _ _ _ h.cls hg (fun k hk => by cases hk; exact hN), (hg.block g0 (lt_of_block h.more) (fun e => by cases e; omega)).trans h.more, Nat.le_trans h.size hg.size⟩
end
theorem zero_law {o : Obj} (h : checkObj o = 0) (hn : o.links.length = 0) : (o.kind == 3) = false := by
 obtain ⟨h1, h2, h3, h4, h5⟩ := checkObj_ok h
 have hne : o.kind ≠ 3 := fun e => by
  unfold linksErr at h5
  rw [hn] at h5
  simp [scan, formBad, e, hn] at h5
 simpa using hne
end Go.Proofs.YtjdgpgfiomnjkaaGreatDoor
