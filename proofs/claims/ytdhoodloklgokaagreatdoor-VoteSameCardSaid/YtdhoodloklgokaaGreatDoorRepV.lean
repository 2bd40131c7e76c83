
/- RepV: what a push and a replica read as; the law's own replica. -/
import Derived.Test.YtdhoodloklgokaaGreatDoorPushA
namespace Go.Proofs.YtdhoodloklgokaaGreatDoor
open Go.RowKit
set_option linter.unusedVariables false
set_option linter.unusedSimpArgs false

def hostR : Rep := ⟨shelfL, namesL, 7, 0, psh0⟩
def comeP : Psh := ⟨[⟨6, 3, [2, 5], tee⟩], [⟨⟨#[109, 97, 105, 110]⟩, 3, 6⟩], false⟩

/-- what a replica reads as -/
structure RepIs (S : Nat → Prop) (w : World) (r : Rep) (sv rv ov uv : Value) : Prop where
  store : StoreV S w sv r.store
  refs : RefsV S w rv r.refs
  objs : StoreV S w ov r.pend.objects
  upds : MvsV S w uv r.pend.updates
  gen : I64 r.gen
  phase : I64 r.phase
theorem RepIs.below {S : Nat → Prop} {w w' : World} {r : Rep} {sv rv ov uv : Value} (h : RepIs S w r sv rv ov uv) (hb : Below w.heap.size w w') : RepIs S w' r sv rv ov uv :=
  ⟨h.store.below hb, h.refs.below hb, h.objs.below hb, h.upds.below hb, h.gen, h.phase⟩
theorem RepIs.weaken {S S' : Nat → Prop} {w : World} {r : Rep} {sv rv ov uv : Value} (h : RepIs S w r sv rv ov uv) (hs : ∀ b, S b → S' b) : RepIs S' w r sv rv ov uv :=
  ⟨h.store.weaken hs, h.refs.weaken hs, h.objs.weaken hs, h.upds.weaken hs, h.gen, h.phase⟩
def repV (r : Rep) (sv rv ov uv : Value) : Value := .agg #[sv, rv, .int .i64 r.gen, .int .i64 r.phase, ov, uv, .bool r.pend.force]
def pshV (p : Psh) (ov uv : Value) : Value := .agg #[ov, uv, .bool p.force]
def RetRep (w w' : World) (e : Ending) (r : Rep) : Prop := ∃ sv rv ov uv, e = .returned (repV r sv rv ov uv) ∧ RepIs (fun b => w.heap.size ≤ b) w' r sv rv ov uv ∧ Below w.heap.size w w'
def RetPsh (w w' : World) (e : Ending) (p : Psh) : Prop := ∃ ov uv, e = .returned (pshV p ov uv) ∧ StoreV (fun b => w.heap.size ≤ b) w' ov p.objects ∧ MvsV (fun b => w.heap.size ≤ b) w' uv p.updates ∧ Below w.heap.size w w'

def set7 (b : Nat) (v0 v1 v2 v3 v4 v5 v6 : Value) (w : World) : World := ((((((w.setCell ⟨b, 0, none⟩ v0).setCell ⟨b, 1, none⟩ v1).setCell ⟨b, 2, none⟩ v2).setCell ⟨b, 3, none⟩ v3).setCell ⟨b, 4, none⟩ v4).setCell ⟨b, 5, none⟩ v5).setCell ⟨b, 6, none⟩ v6
theorem set7_is {b : Nat} {v0 v1 v2 v3 v4 v5 v6 u0 u1 u2 u3 u4 u5 u6 : Value} {t : TypeId} {w : World} (h0 : w.heap[b]? = some (.cells #[u0, u1, u2, u3, u4, u5, u6] t (0, 0))) :
    (set7 b v0 v1 v2 v3 v4 v5 v6 w).heap[b]? = some (.cells #[v0, v1, v2, v3, v4, v5, v6] t (0, 0)) := by
  have s0 : (w.setCell ⟨b, 0, none⟩ v0).heap[b]? = some (.cells #[v0, u1, u2, u3, u4, u5, u6] t (0, 0)) := by have := block_setCell (j := 0) h0 v0; simpa using this
  have s1 : ((w.setCell ⟨b, 0, none⟩ v0).setCell ⟨b, 1, none⟩ v1).heap[b]? = some (.cells #[v0, v1, u2, u3, u4, u5, u6] t (0, 0)) := by have := block_setCell (j := 1) s0 v1; simpa using this
  have s2 : (((w.setCell ⟨b, 0, none⟩ v0).setCell ⟨b, 1, none⟩ v1).setCell ⟨b, 2, none⟩ v2).heap[b]? = some (.cells #[v0, v1, v2, u3, u4, u5, u6] t (0, 0)) := by have := block_setCell (j := 2) s1 v2; simpa using this
  have s3 : ((((w.setCell ⟨b, 0, none⟩ v0).setCell ⟨b, 1, none⟩ v1).setCell ⟨b, 2, none⟩ v2).setCell ⟨b, 3, none⟩ v3).heap[b]? = some (.cells #[v0, v1, v2, v3, u4, u5, u6] t (0, 0)) := by have := block_setCell (j := 3) s2 v3; simpa using this
  have s4 : (((((w.setCell ⟨b, 0, none⟩ v0).setCell ⟨b, 1, none⟩ v1).setCell ⟨b, 2, none⟩ v2).setCell ⟨b, 3, none⟩ v3).setCell ⟨b, 4, none⟩ v4).heap[b]? = some (.cells #[v0, v1, v2, v3, v4, u5, u6] t (0, 0)) := by have := block_setCell (j := 4) s3 v4; simpa using this
  have s5 : ((((((w.setCell ⟨b, 0, none⟩ v0).setCell ⟨b, 1, none⟩ v1).setCell ⟨b, 2, none⟩ v2).setCell ⟨b, 3, none⟩ v3).setCell ⟨b, 4, none⟩ v4).setCell ⟨b, 5, none⟩ v5).heap[b]? = some (.cells #[v0, v1, v2, v3, v4, v5, u6] t (0, 0)) := by have := block_setCell (j := 5) s4 v5; simpa using this
  have s6 : (((((((w.setCell ⟨b, 0, none⟩ v0).setCell ⟨b, 1, none⟩ v1).setCell ⟨b, 2, none⟩ v2).setCell ⟨b, 3, none⟩ v3).setCell ⟨b, 4, none⟩ v4).setCell ⟨b, 5, none⟩ v5).setCell ⟨b, 6, none⟩ v6).heap[b]? = some (.cells #[v0, v1, v2, v3, v4, v5, v6] t (0, 0)) := by have := block_setCell (j := 6) s5 v6; simpa using this
  exact s6
theorem set7_upd (b : Nat) (v0 v1 v2 v3 v4 v5 v6 : Value) (w : World) : Upd (fun x => x = b) w (set7 b v0 v1 v2 v3 v4 v5 v6 w) :=
  Upd.setCell (T := fun x => x = b) (Upd.setCell (T := fun x => x = b) (Upd.setCell (T := fun x => x = b) (Upd.setCell (T := fun x => x = b) (Upd.setCell (T := fun x => x = b) (Upd.setCell (T := fun x => x = b) (Upd.setCell (T := fun x => x = b) (Upd.refl (fun x => x = b) w) (fun _ => rfl) v0) (fun _ => rfl) v1) (fun _ => rfl) v2) (fun _ => rfl) v3) (fun _ => rfl) v4) (fun _ => rfl) v5) (fun _ => rfl) v6

theorem StoreV.upd' {T S : Nat → Prop} {w w' : World} {v : Value} {l : List Obj} (h : StoreV S w v l) (hu : Upd T w w') (hT : ∀ b, S b → ¬ T b) : StoreV S w' v l := by
  have := (h.lt).same (w' := w') fun b hb => hu.block b hb.2 (hT b hb.1)
  exact this.weaken fun b hb => hb.1
theorem RefsV.lt {S : Nat → Prop} {w : World} {v : Value} {l : List Rf} (h : RefsV S w v l) : RefsV (fun b => S b ∧ b < w.heap.size) w v l := by
  obtain ⟨⟨a, cap, hv, h1, h2, h3, h4⟩, h5⟩ := h
  refine ⟨⟨a, cap, hv, h1, h2, h3, fun hn => ?_⟩, h5⟩
  obtain ⟨b, off, ha, hS, hc⟩ := h4 hn
  exact ⟨b, off, ha, ⟨hS, World.block_lt_of_cell? w _ (hc 0 hn 0 _ rfl)⟩, hc⟩
theorem RefsV.upd {T S : Nat → Prop} {w w' : World} {v : Value} {l : List Rf} (h : RefsV S w v l) (hu : Upd T w w') (hT : ∀ b, S b → ¬ T b) : RefsV S w' v l := by
  have := (h.lt).same (w' := w') fun b hb => hu.block b hb.2 (hT b hb.1)
  exact this.weaken fun b hb => hb.1
theorem MvsV.lt {S : Nat → Prop} {w : World} {v : Value} {l : List Mv} (h : MvsV S w v l) : MvsV (fun b => S b ∧ b < w.heap.size) w v l := by
  obtain ⟨⟨a, cap, hv, h1, h2, h3, h4⟩, h5⟩ := h
  refine ⟨⟨a, cap, hv, h1, h2, h3, fun hn => ?_⟩, h5⟩
  obtain ⟨b, off, ha, hS, hc⟩ := h4 hn
  exact ⟨b, off, ha, ⟨hS, World.block_lt_of_cell? w _ (hc 0 hn 0 _ rfl)⟩, hc⟩
theorem MvsV.upd {T S : Nat → Prop} {w w' : World} {v : Value} {l : List Mv} (h : MvsV S w v l) (hu : Upd T w w') (hT : ∀ b, S b → ¬ T b) : MvsV S w' v l := by
  have := (h.lt).same (w' := w') fun b hb => hu.block b hb.2 (hT b hb.1)
  exact this.weaken fun b hb => hb.1

set_option maxRecDepth 100000 in
set_option maxHeartbeats 4000000 in
theorem host_any (w : World) : Calls Tryz.prog 80 #[] w fun e w' => RetRep w w' e hostR := by
  obtain ⟨R, hR, hR1, hy⟩ := cls_box w #[.slice none 0 0, .slice none 0 0, .int .i64 0, .int .i64 0, .slice none 0 0, .slice none 0 0, .bool false] 28
  have hRb := hR.below
  have hRn := hR.next
  clear hy
  go_enter Tryz.func80, Tryz.ntmps80
  go_wp2_with fail
  refine (shelf_any _).mono ?_
  rintro e w1 ⟨v1, rfl, hv1, hb1⟩
  obtain ⟨a1, c1, rfl⟩ := hv1.vshape
  have hR2 := hRn _ _ hR1 hb1
  have Hv1 := Lib.hid hv1
  have Hb1 := Lib.hid hb1
  clear hv1 hb1
  go_wp2_with fail
  refine (names_any _).mono ?_
  rintro e w2 ⟨v2, rfl, hv2, hb2⟩
  obtain ⟨⟨p2, c2⟩, rfl⟩ := hv2.shape
  have hR3 := hRn _ _ hR2 hb2
  have hblk : w2.heap[w.heap.size]? = some (.cells #[.slice none 0 0, .slice none 0 0, .int .i64 0, .int .i64 0, .slice none 0 0, .slice none 0 0, .bool false] 28 (0, 0)) :=
    (hb2.block _ (Nat.lt_of_lt_of_le (by simp) Hb1.out.size)).trans ((Hb1.out.block _ (by simp)).trans (heap_alloc_new w _))
  have g0 := block_cell (j := 0) hblk rfl
  have g1 := block_cell (j := 1) hblk rfl
  have g2 := block_cell (j := 2) hblk rfl
  have g3 := block_cell (j := 3) hblk rfl
  have g4 := block_cell (j := 4) hblk rfl
  have g5 := block_cell (j := 5) hblk rfl
  have g6 := block_cell (j := 6) hblk rfl
  have f0 := block_free (j := 0) hblk
  have f1 := block_free (j := 1) hblk
  have f2 := block_free (j := 2) hblk
  have f3 := block_free (j := 3) hblk
  have f4 := block_free (j := 4) hblk
  have f5 := block_free (j := 5) hblk
  have f6 := block_free (j := 6) hblk
  have Hv2 := Lib.hid hv2
  have Hb2 := Lib.hid hb2
  clear hv2 hb2
  go_wp2_with fail
  change bodyPost _ _ _ _ _ (set7 w.heap.size (.slice a1 shelfL.length c1) (.slice p2 namesL.length c2) (.int .i64 7) (.int .i64 0) (.slice none 0 0) (.slice none 0 0) (.bool false) w2)
  have hb7 := set7_is (v0 := .slice a1 shelfL.length c1) (v1 := .slice p2 namesL.length c2) (v2 := .int .i64 7) (v3 := .int .i64 0) (v4 := .slice none 0 0) (v5 := .slice none 0 0) (v6 := .bool false) hblk
  have hu7 := set7_upd w.heap.size (.slice a1 shelfL.length c1) (.slice p2 namesL.length c2) (.int .i64 7) (.int .i64 0) (.slice none 0 0) (.slice none 0 0) (.bool false) w2
  generalize set7 w.heap.size (.slice a1 shelfL.length c1) (.slice p2 namesL.length c2) (.int .i64 7) (.int .i64 0) (.slice none 0 0) (.slice none 0 0) (.bool false) w2 = w7 at *
  have k0 := block_cell (j := 0) hb7 rfl
  have k1 := block_cell (j := 1) hb7 rfl
  have k2 := block_cell (j := 2) hb7 rfl
  have k3 := block_cell (j := 3) hb7 rfl
  have k4 := block_cell (j := 4) hb7 rfl
  have k5 := block_cell (j := 5) hb7 rfl
  have k6 := block_cell (j := 6) hb7 rfl
  have hs1 := Hb1.out.size
  have hs2 := Hb2.out.size
  simp only [World.size_alloc] at hs1
  refine bodyPost_ret (v := repV hostR (.slice a1 shelfL.length c1) (.slice p2 namesL.length c2) (.slice none 0 0) (.slice none 0 0)) (by simp [results, Tryz.results80, go_sem]; simp [k0, k1, k2, k3, k4, k5, k6]; rfl) rfl ⟨_, _, _, _, rfl, ⟨?_, ?_, StoreV.nil _ _ _ _ (by omega), MvsV.nil _ _ _ _ (by omega), by unfold I64; decide, by unfold I64; decide⟩, ?_⟩
  · exact ((Hv1.out.below Hb2.out).upd' hu7 (fun b hb e => by simp at hb; omega)).weaken fun b hb => by simp at hb; omega
  · exact (Hv2.out.upd hu7 (fun b hb e => by omega)).weaken fun b hb => by omega
  · exact (hRb _ hR3).trans (hu7.below (B := w.heap.size) (by omega) (fun b hb => by omega))

def set3 (b : Nat) (v0 v1 v2 : Value) (w : World) : World := ((w.setCell ⟨b, 0, none⟩ v0).setCell ⟨b, 1, none⟩ v1).setCell ⟨b, 2, none⟩ v2
theorem set3_is {b : Nat} {v0 v1 v2 u0 u1 u2 : Value} {t : TypeId} {w : World} (h0 : w.heap[b]? = some (.cells #[u0, u1, u2] t (0, 0))) :
    (set3 b v0 v1 v2 w).heap[b]? = some (.cells #[v0, v1, v2] t (0, 0)) := by
  have s0 : (w.setCell ⟨b, 0, none⟩ v0).heap[b]? = some (.cells #[v0, u1, u2] t (0, 0)) := by have := block_setCell (j := 0) h0 v0; simpa using this
  have s1 : ((w.setCell ⟨b, 0, none⟩ v0).setCell ⟨b, 1, none⟩ v1).heap[b]? = some (.cells #[v0, v1, u2] t (0, 0)) := by have := block_setCell (j := 1) s0 v1; simpa using this
  have s2 : (((w.setCell ⟨b, 0, none⟩ v0).setCell ⟨b, 1, none⟩ v1).setCell ⟨b, 2, none⟩ v2).heap[b]? = some (.cells #[v0, v1, v2] t (0, 0)) := by have := block_setCell (j := 2) s1 v2; simpa using this
  exact s2
theorem set3_upd (b : Nat) (v0 v1 v2 : Value) (w : World) : Upd (fun x => x = b) w (set3 b v0 v1 v2 w) :=
  Upd.setCell (T := fun x => x = b) (Upd.setCell (T := fun x => x = b) (Upd.setCell (T := fun x => x = b) (Upd.refl (fun x => x = b) w) (fun _ => rfl) v0) (fun _ => rfl) v1) (fun _ => rfl) v2

/-- a new block of updates -/
theorem mvs_new (w : World) (l : List Mv) (t : TypeId) (N : Nat) (hN : N = w.heap.size) (hl : l.length * 32 ≤ 140737488351232) (h : ∀ u ∈ l, I64 u.old ∧ I64 u.new ∧ u.name.size ≤ 140737488351232) :
    MvsV (fun b => b = N) (w.alloc (.cells (flat (fun i => mvCells (mv l i)) l.length).toArray t)) (.slice (some ⟨N, 0, none⟩) l.length l.length) l :=
  ⟨sl_new w _ 3 32 _ t N hN (fun _ _ => rfl) hl (by omega), h⟩
end Go.Proofs.YtdhoodloklgokaaGreatDoor
