/- Walks: a walk from tips. -/
import Derived.Test.YtcppgkhkijejoaaWalk2
namespace Go.Proofs.Ytcppgkhkijejoaa
open Go.RowKit
set_option linter.unusedVariables false
set_option linter.unusedSimpArgs false

theorem ObjIs.lt {S : Nat → Prop} {w : World} {o : Obj} {lv : Value} (h : ObjIs S w o lv) : ObjIs (fun b => S b ∧ b < w.heap.size) w o lv := ⟨h.1.lt, h.2⟩
theorem StoreV.lt {S : Nat → Prop} {w : World} {v : Value} {l : List Obj} (h : StoreV S w v l) : StoreV (fun b => S b ∧ b < w.heap.size) w v l := by
  obtain ⟨lvs, ⟨a, cap, hv, h1, h2, h3, h4⟩, h5⟩ := h
  refine ⟨lvs, ⟨a, cap, hv, h1, h2, h3, fun hn => ?_⟩, fun i hi => (h5 i hi).lt⟩
  obtain ⟨b, off, ha, hS, hc⟩ := h4 hn
  exact ⟨b, off, ha, ⟨hS, World.block_lt_of_cell? w _ (hc 0 hn 0 _ rfl)⟩, hc⟩

/-- what is known when k of the tips have been walked from -/
def TipsTo (l : List Obj) (par : Bool) (tips : List Int) (k : Nat) (M : Nat → Bool) : Prop :=
  ∀ j, j < l.length → (M j = true ↔ ∃ k' i, k' < k ∧ i < l.length ∧ (obj l i).id = nth tips k' ∧ Rch l par i j)

theorem tipsTo_closed {l : List Obj} (h : Right l) {par : Bool} {tips : List Int} {k i : Nat} {M : Nat → Bool} (hm : TipsTo l par tips k M) : ClosedTo l par i M := by
  intro a b _ ha hM e
  obtain ⟨k', i', h1, h2, h3, h4⟩ := (hm a ha).1 hM
  exact (hm b (by have := h.edge_lt ha e; omega)).2 ⟨k', i', h1, h2, h3, h4.snoc e⟩
theorem tipsTo_next {l : List Obj} (h : Right l) {par : Bool} {tips : List Int} {k i : Nat} {M M' : Nat → Bool} (hm : TipsTo l par tips k M) (hi : i < l.length) (hid : (obj l i).id = nth tips k) (hn : ∀ j, j < l.length → (M' j = true ↔ M j = true ∨ Rch l par i j)) : TipsTo l par tips (k + 1) M' := by
  intro j hj
  rw [hn j hj, hm j hj]
  constructor
  · rintro (⟨k', i', h1, h2, h3, h4⟩ | h1)
    · exact ⟨k', i', by omega, h2, h3, h4⟩
    · exact ⟨k, i, by omega, hi, hid, h1⟩
  · rintro ⟨k', i', h1, h2, h3, h4⟩
    by_cases e : k' = k
    · subst e
      have := h.rising.inj h2 hi (h3.trans hid.symm)
      subst this; exact .inr h4
    · exact .inl ⟨k', i', by omega, h2, h3, h4⟩
theorem tipsTo_end {l : List Obj} (h : Right l) {par : Bool} {tips : List Int} {M : Nat → Bool} (hm : TipsTo l par tips tips.length M) : ∀ j, j < l.length → M j = reachB l par tips j := by
  intro j hj
  rw [Bool.eq_iff_iff, hm j hj, reach_iff h hj]
  constructor
  · rintro ⟨k, i, h1, h2, h3, h4⟩
    refine ⟨i, h2, ?_, h4⟩
    unfold tipB
    rw [List.any_eq_true]
    exact ⟨tips[k], List.getElem_mem h1, by rw [h3, nth_lt h1]; simp⟩
  · rintro ⟨i, h2, h3, h4⟩
    unfold tipB at h3
    rw [List.any_eq_true] at h3
    obtain ⟨x, hx, hxe⟩ := h3
    obtain ⟨k, hk, rfl⟩ := List.getElem_of_mem hx
    exact ⟨k, i, hk, h2, by rw [nth_lt hk]; simpa using (by simpa using hxe : tips[k] = (obj l i).id).symm, h4⟩

def WalkEnd (lv : Value) (l : List Obj) (par : Bool) (tips : List Int) (w : World) (e : Ending) (w' : World) : Prop :=
  ∃ bw bm M, e = .returned (.pointer (some ⟨bw, 0, none⟩)) ∧ WalkerAt bw bm l.length lv M w' ∧ (∀ j, j < l.length → M j = reachB l par tips j) ∧ Below w.heap.size w w'

theorem Try.infoBool : (Try.prog.info? 4).map (fun i => (i.zero, i.size, i.bytes)) = some (some (.bool false), 1, 1) := by kernel_rfl

theorem make_marks (n : Nat) (hn : n ≤ 1000) (w : World) :
    (Instr.makeSlice 85 (.int .i64 (n : Int)) (.int .i64 (n : Int))).run Try.prog w = .ok (.slice (some ⟨w.heap.size, 0, none⟩) n n) (w.alloc (.cells (markRow n fun _ => false) 4)) := by
  obtain ⟨i0, hi, hz0, hz1, hz2⟩ := info_parts Try.infoBool
  have h := run_make (P := Try.prog) w 85 4 i0 _ Try.underlying85 hi hz0 .i64 .i64 (n : Int) (n : Int) (by omega) (by omega) (by rw [hz2]; omega) (by omega)
  rw [h, hz1]
  have e : madeCells (Value.bool false).cells ((n : Int).toNat * 1) = markRow n fun _ => false := by
    apply Array.ext
    · simp [madeCells, markRow, Value.cells]
    · intro j h1 h2
      simp [madeCells, markRow, Value.cells, Nat.mod_one]
  rw [e]; rfl

set_option maxRecDepth 100000 in
set_option maxHeartbeats 4000000 in
theorem walk_any (l : List Obj) (par : Bool) (tips : List Int) (g : Nat) (hg : Follows g par) (eg : ∀ args w, (callFunc g args).run Try.prog w = .ok (.enter g args) w) (hR : Right l) (S S' : Nat → Prop) (lv tv : Value) (w : World)
    (hst : StoreV S w lv l) (htv : IntsV S' w tv tips) (hpl : ∀ k, k < tips.length → ∃ i, i < l.length ∧ (obj l i).id = nth tips k ∧ (par = true → (obj l i).kind = 3)) :
    Calls Try.prog 65 #[lv, tv, .func (.func g) #[] #[]] w (WalkEnd lv l par tips w) := by
  obtain ⟨a, cap, n, hlv, hnl, hn56⟩ : ∃ a cap n, lv = .slice a n cap ∧ n = l.length ∧ n * 56 ≤ 140737488351232 := let ⟨_, ⟨a, cap, hv, _, _, h, _⟩, _⟩ := hst; ⟨a, cap, _, hv, rfl, h⟩
  subst hlv
  obtain ⟨ta, tn, tcap, HT, rfl, t1, t2, t3, t4⟩ := htv.open
  have Hst := Lib.hid hst.lt
  have Htv := Lib.hid htv.lt
  have Hnl := Lib.hid hnl
  have hn40 : n ≤ 40 := by rw [hnl]; exact hR.many
  have hmk := make_marks n (by omega)
  clear t4 hst htv hnl
  go_enter Try.func65, Try.ntmps65
  go_wp2_with fail
  obtain ⟨w0, hw0⟩ : ∃ w0 : World, w0 = (w.alloc (.cells (markRow n fun _ => false) 4)).alloc (.cells #[.slice a n cap, .slice (some ⟨w.heap.size, 0, none⟩) n n] 87) := ⟨_, rfl⟩
  have HA0 := Lib.hid (show WalkerAt (w.heap.size + 1) w.heap.size l.length (.slice a n cap) (fun _ => false) w0 by
    rw [hw0, ← Hnl.out]
    exact ⟨heap_new _ _ _ (by simp), by rw [Below.heap_alloc _ _ _ (by simp)]; exact heap_alloc_new w _⟩)
  have HB0 := Lib.hid (show Below w.heap.size w w0 by rw [hw0]; exact ((Below.refl _ _).alloc (Nat.le_refl _) _).alloc (by simp) _)
  have Hst0 := Lib.hid (Hst.out.below HB0.out)
  have Htv0 := Lib.hid (Htv.out.below HB0.out)
  rw [← hw0]
  clear hw0 hmk
  go_loopw [18] (fun s wr => ∃ (k : Nat) (Mk : Nat → Bool), k ≤ tn ∧ s = .int .i64 k ∧ Hid (WalkerAt (w.heap.size + 1) w.heap.size l.length (.slice a n cap) Mk wr ∧ TipsTo l par tips k Mk ∧ Upd (fun b => b = w.heap.size) w0 wr)) (fun s _ => tn - (intOf s).toNat)
  case atStart => exact ⟨0, _, by omega, rfl, HA0.out, fun j hj => ⟨(fun h => by cases h), fun ⟨k', i, h, _⟩ => absurd h (by omega)⟩, Upd.refl _ _⟩
  case round =>
    obtain ⟨k, Mk, hk, rfl, HK⟩ := hrel
    by_cases hkm : k < tn
    · obtain ⟨i, hi, hid, hpk⟩ := hpl k (by have := HT.out; omega)
      have hcall := visit_any l par g hg eg hR _ (.slice a n cap) (w.heap.size + 1) w.heap.size (fun b hb => by have := hb.2; omega) (by omega) i hi hpk wr Mk (Hst0.out.upd HK.out.2.2 (fun b hb => by have := hb.2; omega)) HK.out.1 (tipsTo_closed hR HK.out.2.1)
      rw [hid] at hcall
      have Hcall := Lib.hid hcall
      have Hin := Lib.hid (show i < l.length ∧ (obj l i).id = nth tips k from ⟨hi, hid⟩)
      obtain ⟨a5, n5, c5, HN5, e5, _, _, _, h5⟩ := (Htv0.out.upd HK.out.2.2 (fun b hb => by have := hb.2; omega)).open
      cases e5
      obtain ⟨b5, off5, rfl, _, hc5⟩ := h5 (by omega)
      have hcell := hc5 k wr hkm (Below.refl _ _)
      clear hcall hid hi hpk hc5 h5 HN5
      go_wp2_with fail
      refine Hcall.out.mono ?_
      rintro e w5 ⟨rfl, M', hw5, hM', hu5⟩
      have HX := Lib.hid (show WalkerAt (w.heap.size + 1) w.heap.size l.length (.slice a n cap) M' w5 ∧ TipsTo l par tips (k + 1) M' ∧ Upd (fun b => b = w.heap.size) w0 w5 from
        ⟨hw5, tipsTo_next hR HK.out.2.1 Hin.out.1 Hin.out.2 hM', HK.out.2.2.trans hu5 (fun _ _ h => h)⟩)
      clear hw5 hM' hu5
      go_wp2_with fail
      go_roundw
      case rel => exact ⟨k + 1, M', by omega, by go_num, HX⟩
      case measure => simp [intOf]; omega
    · obtain rfl : k = tn := by omega
      go_wp2_with fail
      go_ret
      have hm := HK.out.2.1
      rw [HT.out] at hm
      exact ⟨_, _, Mk, rfl, HK.out.1, tipsTo_end hR hm, HB0.out.trans (HK.out.2.2.below (by have := HB0.out.size; omega) (fun b hb => by omega))⟩
end Go.Proofs.Ytcppgkhkijejoaa
